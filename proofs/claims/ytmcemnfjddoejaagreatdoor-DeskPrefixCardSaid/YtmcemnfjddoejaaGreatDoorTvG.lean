/- Operations on memory: stores, appends, new arrays, parts. -/
import Derived.Test.YtmcemnfjddoejaaGreatDoorTvF
import Derived.Laws.OwnMore
namespace Go.Tv
open Go Go.RowKit
def wr(c:List ag)(p:Nat)(new:List ag):List ag:=c.take p++new++c.drop (p+new.length)
theorem Fq{c new:List ag}{p:Nat}(h:p+new.length≤c.length):(wr c p new).length=c.length:=by
 simp only[wr,List.length_append,List.length_take,List.length_drop];omega
theorem EJ{F:Bool→Addr→Value→Prop}{ρ:Nat→Option Value}{f new:List ag}{us j:List Value}{p:Nat}(M:p+new.length≤f.length)(z:us.length=f.length)(A:j.length=new.length)
  (m:VL F ρ f (fun k u=>us[k]? = some u)) (B:VL F ρ new (fun k u=>j[k]? = some u)) :
  VL F ρ (wr f p new) (fun k u=>(us.take p++j++us.drop (p+new.length))[k]? = some u):=by
 refine VL.mk fun k x c=> ?_
 unfold wr at c;have C:(f.take p++new).length=p+new.length:=by simp only[List.length_append,List.length_take];omega
 have D:(us.take p++j).length=p+new.length:=by simp only[List.length_append,List.length_take];omega
 have E:(f.take p).length=p:=by simp only[List.length_take];omega
 have I:(us.take p).length=p:=by simp only[List.length_take];omega
 rcases Nat.lt_or_ge k (p+new.length)with J | L
 ·rw[List.getElem?_append_left (by omega)]at c;rw[List.getElem?_append_left (by omega)];rcases Nat.lt_or_ge k p with e | q
  ·rw[List.getElem?_append_left (by omega),List.getElem?_take,if_pos e]at c;rw[List.getElem?_append_left (by omega),List.getElem?_take,if_pos e];exact VL.get m c
  ·rw[List.getElem?_append_right (by omega),E]at c;rw[List.getElem?_append_right (by omega),I];exact VL.get B c
 ·rw[List.getElem?_append_right (by omega),C,List.getElem?_drop]at c;rw[List.getElem?_append_right (by omega),D,List.getElem?_drop];exact VL.get m c
theorem C9{P:Program}{Bw:Nat→Prop}{w0:b9 P}{w:World}{ρ:Nat→Option Value}{φ:Nat→Nat→Prop}{h:Nat→Option Obj}(m:Mem Bw w0 ρ φ h w){T:Ty}{x:ag}{y:T.den}{u:hZ}(c:FU T h x=some (y,u)):
  Mem Bw w0 ρ φ (apply u h) w∧(∀β a v,Fr (own φ h) Bw w β a v→Fr (own φ (apply u h)) Bw w β a v) ∧
  ∀g:Nat→Value→Prop,VL (Fr (own φ h) Bw w) ρ (cellsOf x) g→ai (Fr (own φ (apply u h)) Bw w false) T y g∧T.size=(cellsOf x).length:=by
 unfold FU at c;split at c
 ·rename_i e D f;split at c
  ·rename_i E j;cases c;obtain⟨p,q,I,z⟩:=pF m f;refine⟨p,q,fun g A=> ?_⟩;obtain⟨B,C,J⟩:=cy j (z g A);refine⟨B,?_⟩;have:(e.drop T.size).length=0:=by rw[←C];rfl
   simp only[List.length_drop]at this;omega
  ·cases c
 ·cases c
theorem mN{P:Program}{Bw:Nat→Prop}{w0:b9 P}{w:World}{ρ:Nat→Option Value}{φ:Nat→Nat→Prop}{h:Nat→Option Obj}(m:Mem Bw w0 ρ φ h w){T:Ty}{x:ag}{y:T.den}{u:hZ}(f:F5 T h x=some (y,u)):
  Mem Bw w0 ρ φ (apply u h) w∧(∀β a v,Fr (own φ h) Bw w β a v→Fr (own φ (apply u h)) Bw w β a v) ∧
  ∀g:Nat→Value→Prop,VL (Fr (own φ h) Bw w) ρ (cellsOf x) g→ai (Fr (own φ (apply u h)) Bw w false) T y g∧T.size=(cellsOf x).length:=by
 unfold F5 at f;split at f
 ·rename_i A id i sz off;split at f
  ·rename_i hz;split at f
   ·rename_i cs hi;split at f
    ·rename_i y' h2;cases f;obtain⟨m',R⟩:=m.less (h':=bH h id none) (fun j o L=>by
      by_cases e:j=id
      ·subst e;rw[aw]at L;cases L
      ·rwa [aB _ _ e]at L)
     refine⟨m',R,fun g J=>⟨?_,rfl⟩⟩;simp only[cellsOf,VL,V]at J;obtain⟨⟨u,X,b,hb,rfl⟩,_⟩:=J;obtain⟨u0,O,q,te,cells,rfl,D,r1,r2,r3⟩:=m.ob id _ hi;have M:q=b:=by
      rw[O]at hb;rcases hb with hb | ⟨n,c,hb⟩
      ·simpa using hb
      ·cases hb
     subst M;rw[hz]at X;obtain⟨r4,_,_⟩:=cy h2 r3;refine⟨⟨q,0,none⟩,X,ai.mono (R false) (fun k v I=> ?_) r4⟩;have I:cells[k]? = some v:=I;rw[ca];refine⟨fun⟨z,Y,C,p2,p3⟩=> ?_,fun _ N=>m.ow q ⟨id,_,hi,rfl,D⟩ (m.bw _ N),?_⟩
     ·have C:bH h id none z=some Y:=C;have E:z≠id:=fun e=>by subst e;rw[aw]at C;cases C
      rw[aB _ _ E]at C;exact E (m.dj z id Y _ q C p2 hi rfl p3 D)
     ·rw[Nat.zero_add];exact World.gH (by rw[cell_of_row w q k cells te (0,0) r1];exact I)
    ·cases f
   ·rename_i k n xs cs hi;split at f
    ·rename_i k' n' B;split at f
     ·rename_i en;subst en;split at f
      ·rename_i ek;subst ek;split at f
       ·rename_i y' h2;cases f;obtain⟨m',R⟩:=m.less (h':=bH h id none) (fun j o L=>by
         by_cases e:j=id
         ·subst e;rw[aw]at L;cases L
         ·rwa [aB _ _ e]at L)
        refine⟨m',R,fun g J=>⟨?_,rfl⟩⟩;simp only[cellsOf,VL,V]at J;obtain⟨⟨u,X,b,hb,rfl⟩,_⟩:=J;obtain⟨u0,O,q,te,cells,rfl,D,r1,r2,r3,r4⟩:=m.ob id _ hi;have M:q=b:=by
         rw[O]at hb;rcases hb with hb | ⟨n,c,hb⟩
         ·simpa using hb
         ·cases hb
        subst M;rw[hz]at X;obtain⟨r5,_,_⟩:=cy h2 r4;have Z:∀k v,cells[k]? = some v→Fr (own φ (bH h id none)) Bw w false ⟨q,k,none⟩ v:=fun k v I=>by
         refine⟨fun⟨z,Y,C,p2,p3⟩=> ?_,fun _ N=>m.ow q ⟨id,_,hi,rfl,D⟩ (m.bw _ N),World.gH (by rw[cell_of_row w q k cells te (0,0) r1];exact I)⟩;have C:bH h id none z=some Y:=C;have E:z≠id:=fun e=>by subst e;rw[aw]at C;cases C
         rw[aB _ _ E]at C;exact E (m.dj z id Y _ q C p2 hi rfl p3 D)
        refine⟨⟨q,0,none⟩,X,fun i hi=> ?_,ai.mono (R false) (fun k v I=> ?_) r5⟩
        ·have:=Z i _ (r3 i hi);rw[show(⟨q,i,none⟩:Addr)=(⟨q,0,none⟩:Addr).add i by rw[ca,Nat.zero_add]]at this;exact this
        ·have I:cells[n+k]? = some v:=I;have:=Z (n+k) v I;rw[show(⟨q,n+k,none⟩:Addr)=(⟨q,0,none⟩:Addr).add (n+k) by rw[ca,Nat.zero_add]]at this;exact this
       ·cases f
      ·cases f
     ·cases f
    ·cases f
   ·cases f
  ·cases f
 ·rename_i k n k' n' xs cs;split at f
  ·split at f
   ·rename_i en;subst en;split at f
    ·rename_i ek;subst ek;cases f;refine⟨m,fun _ _ _ h=>h,fun g J=>⟨fun i hi=> ?_,by simp[cellsOf,Ty.size,xs.2]⟩⟩;simp only[cellsOf,List.append_nil]at J;obtain⟨u,O,q2⟩:=VL.get J (k:=i) (x:= .p false (.int k') xs.1[i]) (by rw[List.getElem?_map,List.getElem?_eq_getElem hi];rfl);rw[bV q2]at O;exact O
    ·cases f
   ·cases f
  ·cases f
 ·exact C9 m f
section
variable{P:Program}{Bw:Nat→Prop}{w0:b9 P}{ρ:Nat→Option Value}{φ:Nat→Nat→Prop}{h:Nat→Option Obj}{w:World}{new:Nat}
theorem wC(m:Mem Bw w0 ρ φ h w){o:Oper}{a:Act}{t:TypeId}{ti:TI}(ht:aQ P t ti){O E:Operand}{id i sz off:Nat}(R:V (Fr (own φ h) Bw w) ρ (.adr id i sz off) (a.eval O))
  {y:ag} (hy:V (Fr (own φ h) Bw w) ρ y (a.eval E)) (hc:(cellsOf y).all ag.cell=true) (ho:o.op = .store t O E) {B:List ag} (hi:h id=some (.box B))
  (f:(cellsOf y).length=ti.size) (j:i*sz+off+ti.size≤B.length) :
  Good P o a w (aE Bw w0 ρ φ h w new .unk [(id,some (.box (wr B (i*sz+off) (cellsOf y))))]):=by
 obtain⟨u,I,g,X,cells,rfl,J,Y,Z,r3⟩:=m.ob id _ hi;simp only[V]at R;obtain⟨g',z,he⟩:=R;rw[I]at z;have L:g=g':=by
  rcases z with z | ⟨n,c,z⟩
  ·simpa using z
  ·cases z
 subst L;obtain⟨h1,M,h3⟩:=fA hc hy;have C:=iJ (P:=P) ht Y (v:=a.eval E) (p:=i*sz+off) (by rw[M,f]) (by rw[Z];exact j) h3;refine Good.kx (w':=_) (by simp[execOp,ho,Instr.storeAt,he,Instr.sureAddr,C];rfl) ?_;refine eH m (some id) id (.box (wr B (i*sz+off) (cellsOf y))) (.pointer (some ⟨g,0,none⟩)) (φ id) (some g) (bf w g _) (fun k e=>⟨id,_,rfl,hi,rfl,by cases e;assumption⟩) (.inr ⟨rfl,I⟩)
  (fun _ k q=>Nat.lt_of_lt_of_le (m.lt id _ k hi rfl q) (bf w g _).size) (fun _ k q=> .inr ⟨id,_,rfl,hi,rfl,q⟩) (fun F' D N x=> ?_) (by rw[aZ];rfl) (fun e=>by rw[I]at e;cases e) (fun F' D N x a1=>by simp only[V])
 refine⟨g,X,_,rfl,J,setRow_heap w g cells _ X _ Y,?_,?_⟩
 ·simp only[List.size_toArray,List.length_append,List.length_take,List.length_drop,Array.length_toList,M,f,wr];omega
 ·have h4:VL F' D B (fun k u=>cells.toList[k]? = some u):=VL.mono N x (fun k u q=>by simpa using q) r3;have:=EJ (p:=i*sz+off) (by rw[f];exact j) (by simpa using Z) M h4 (VL.mono N x (fun _ _ h=>h) h1);rw[f]at this;exact VL.mono (fun _ _ _ h=>h) (fun _ _ h=>h) (fun k u q=>by simpa using q) this
theorem qu{t:TypeId}{ti:TI}(z:aQ P t ti)(A:ti.size=1){g p:Nat}{c:Array Value}{x:TypeId}{mk:Nat×Nat}(m:w.heap[g]? = some (.cells c x mk))(B:p<c.size)(q:mk=(0,0)∨mk=(c.size,c.size+1))
  {v:Value} (C:v.cells = #[v]) (D:v.oneCell'=true):(storeVar t ⟨g,p,none⟩ v).run P w = .ok () (w.setRow g (c.setIfInBounds p v)):=by
 have f:w.cell? ⟨g,p,none⟩=some c[p]:=by simp[World.cell?,m,B]
 have j:w.frozen? ⟨g,p,none⟩=false:=by rcases q with e | e <;> subst e <;> simp[World.frozen?,m] <;> omega
 unfold storeVar;rw[Sem.run_bind,run_sizeOf z];simp only[Result.andThen_ok];rw[C,A];have u:(store ((⟨g,p,none⟩:Addr).add 0) v).run P w = .ok () (w.setRow g (c.setIfInBounds p v)):=by
  have k:(⟨g,p,none⟩:Addr).add 0=⟨g,p,none⟩:=by unfold Addr.add;split <;> simp_all
  rw[k,run_store P w _ v _ D,f];simp[j,setCell_eq_setRow w g p c x mk v m]
 simp[storeCells,Sem.run_bind,u]
theorem uo(m:Mem Bw w0 ρ φ h w){o:Oper}{a:Act}{t:TypeId}{ti:TI}(ht:aQ P t ti)(C:ti.size=1){D E:Operand}{id i:Nat}(Z:V (Fr (own φ h) Bw w) ρ (.adr id i 1 0) (a.eval D))
  {β:Bool} {v:Int} (hy:V (Fr (own φ h) Bw w) ρ (.p β (.int .u8) v) (a.eval E)) (ho:o.op = .store t D E) {B:TypeId} {xs:List Int} (hi:h id=some (.bytes B xs)) (I:i<xs.length) :
  Good P o a w (aE Bw w0 ρ φ h w new .unk [(id,some (.bytes B (xs.set i v)))]):=by
 obtain⟨u,J,q2⟩:=m.ob id _ hi;simp only[V]at Z;obtain⟨g,q,he⟩:=Z;have x:=bV hy;rcases q2 with⟨rfl,hn⟩ | ⟨f,cap,L,mk,rfl,M,r1,r2,r3,r5,r6⟩
 ·subst hn;simp at I
 rw[J]at q;have N:f=g:=by
  rcases q with q | ⟨n,c,q⟩
  ·cases q
  ·simp only[Option.some.injEq,Value.slice.injEq,Addr.mk.injEq]at q;exact q.1.1
 subst N;have z:=qu (P:=P) ht C r1 (v:=a.eval E) (p:=i) (by omega) r2 (by rw[x];rfl) (by rw[x];rfl);have O:a.eval D = .pointer (some ⟨f,i,none⟩):=by rw[he];simp
 refine Good.kx (w':=_) (by simp[execOp,ho,Instr.storeAt,O,Instr.sureAddr,z];rfl) ?_;refine eH m (some id) id (.bytes B (xs.set i v)) (.slice (some ⟨f,0,none⟩) xs.length cap) (φ id) (some f) (bf w f _) (fun k e=>⟨id,_,rfl,hi,rfl,by cases e;assumption⟩) (.inr ⟨rfl,J⟩)
  (fun _ k R=>Nat.lt_of_lt_of_le (m.lt id _ k hi rfl R) (bf w f _).size) (fun _ k R=> .inr ⟨id,_,rfl,hi,rfl,R⟩) (fun F' X hF Y=> ?_) (by rw[aZ];rfl) (fun e=>by rw[J]at e;cases e) (fun F' X hF Y a1=>by simp only[V])
 refine .inr ⟨f,cap,_,mk,by rw[List.length_set],M,setRow_heap w f L _ B _ r1,?_,by rw[List.length_set];exact r3,by simpa using r5,fun j hj=> ?_⟩
 ·rcases r2 with e | e
  ·exact .inl e
  ·exact .inr (by rw[e];simp)
 ·rw[List.length_set]at hj;by_cases e:i=j
  ·subst e;rw[x];simp only[List.getElem_set_self];rw[Array.getElem?_setIfInBounds_self_of_lt (by omega)]
  ·rw[List.getElem_set_ne e,Array.getElem?_setIfInBounds_ne e];exact r6 j hj
theorem Ir{F:Bool→Addr→Value→Prop}{ρ:Nat→Option Value}{cells vs:List Value}{e new:List ag}{b off:Nat}(hb:b+e.length≤cells.length)(f:off+new.length≤e.length)(q:vs.length=new.length)
  (I:VL F ρ e (fun k u=>cells[b+k]? = some u)) (J:VL F ρ new (fun k u=>vs[k]? = some u)) :
  VL F ρ (wr e off new) (fun k u=>(cells.take (b+off)++vs++cells.drop (b+off+new.length))[b+k]? = some u):=by
 have L:VL F ρ e (fun k u=>((cells.drop b).take e.length)[k]? = some u):=VL.mk fun k x c=>by obtain⟨u,M,N⟩:=VL.get I c;have z:k<e.length:=(List.getElem?_eq_some_iff.1 c).1;exact⟨u,by rw[List.getElem?_take,if_pos z,List.getElem?_drop];exact M,N⟩
 have O:=EJ (p:=off) (us:=(cells.drop b).take e.length) f (by simp only[List.length_take,List.length_drop];omega) q L J;refine VL.mono (fun _ _ _ h=>h) (fun _ _ h=>h) (fun k u c=> ?_) O;have A:(((cells.drop b).take e.length).take off++vs).length=off+new.length:=by simp only[List.length_append,List.length_take,List.length_drop];omega
 have B:(cells.take (b+off)++vs).length=b+off+new.length:=by simp only[List.length_append,List.length_take];omega
 have C:(((cells.drop b).take e.length).take off).length=off:=by simp only[List.length_take,List.length_drop];omega
 have D:(cells.take (b+off)).length=b+off:=by simp only[List.length_take];omega
 rcases Nat.lt_or_ge k (off+new.length)with R | V
 ·rw[List.getElem?_append_left (by omega)]at c;rw[List.getElem?_append_left (by omega)];rcases Nat.lt_or_ge k off with j | E
  ·rw[List.getElem?_append_left (by omega),List.getElem?_take,if_pos j,List.getElem?_take,if_pos (by omega),List.getElem?_drop]at c;rw[List.getElem?_append_left (by omega),List.getElem?_take,if_pos (by omega)];exact c
  ·rw[List.getElem?_append_right (by omega),C]at c;rw[List.getElem?_append_right (by omega),D,show b+k - (b+off)=k - off by omega];exact c
 ·rw[List.getElem?_append_right (by omega),A,List.getElem?_drop,List.getElem?_take]at c;split at c
  ·rw[List.getElem?_drop]at c;rw[List.getElem?_append_right (by omega),B,List.getElem?_drop,←c];congr 1;omega
  ·cases c
theorem ig {cells vs:List Value} {p n k:Nat} (u:p+n≤cells.length) (q:vs.length=n) (e:k<p∨p+n≤k):(cells.take p++vs++cells.drop (p+n))[k]? = cells[k]? :=by
 have f:(cells.take p).length=p:=by simp only[List.length_take];omega
 have j:(cells.take p++vs).length=p+n:=by simp only[List.length_append,f,q]
 rcases e with e | e
 ·rw[List.getElem?_append_left (by omega),List.getElem?_append_left (by omega),List.getElem?_take,if_pos e]
 ·rw[List.getElem?_append_right (by omega),j,List.getElem?_drop];congr 1;omega
theorem uM{α:Type}{l vs:List α}{p m n:Nat}(e:vs.length=m)(j:p+m≤n)(k:n≤l.length):
  (l.take p++vs++l.drop (p+m)).take n=(l.take n).take p++vs++(l.take n).drop (p+m):=by
 have f:(l.take p).length=p:=by simp only[List.length_take];omega
 rw[List.append_assoc,List.append_assoc,List.take_append,List.take_append,f,e,List.take_of_length_le (by omega:(l.take p).length≤n),List.take_of_length_le (by omega:vs.length≤n - p),
  List.take_take,Nat.min_eq_left (by omega),List.drop_take,Nat.sub_sub]
theorem ai.fR{F:Addr→Value→Prop}:∀ {T:Ty} {x:T.den} {g g':Nat→Value→Prop},(∀k v,k<T.size→g k v→g' k v)→ai F T x g→ai F T x g'
 | .int _,_,_,_,f,h=>f _ _ (by simp[Ty.size]) h
 | .bool,_,_,_,f,h=>f _ _ (by simp[Ty.size]) h
 | .str,_,_,_,f,h=>f _ _ (by simp[Ty.size]) h
 | .flt,_,_,_,f,⟨m,h,e⟩=>⟨m,f _ _ (by simp[Ty.size]) h,e⟩
 | .unit,_,_,_,_,_=>trivial
 | .prod a b,x,_,_,f,h=>⟨ai.fR (T:=a) (fun k v q=>f k v (by simp only[Ty.size];omega)) h.1,ai.fR (T:=b) (fun k v q=>f _ v (by simp only[Ty.size];omega)) h.2⟩
 | .slice a,xs,_,_,f,⟨ad,len,cap,j,hl,h⟩=>⟨ad,len,cap,f _ _ (by simp[Ty.size]) j,hl,h⟩
 | .ptr a,none,_,_,f,h=>f _ _ (by simp[Ty.size]) h
 | .ptr a,some y,_,_,f,⟨b,j,z⟩=>⟨b,f _ _ (by simp[Ty.size]) j,z⟩
 | .tree B C,t,_,_,f,h=>fU.mono (fun _ _ h=>h) (fun k v q=>f k v (by simpa [Ty.size]using q)) h
 | .arr _ _,x,_,_,f,h=>fun i hi=>f _ _ (by rw[x.2]at hi;exact hi) (h i hi)
 | .mapi _ _,_,_,_,f,⟨r,j,h⟩=>⟨r,f _ _ (by simp[Ty.size]) j,h⟩
def BW(A:Ty)(h:Nat→Option Obj)(c:List A.den)(i off:Nat)(y:ag):Option (A.den×hZ) :=
 F5 A h (.agg (wr (flat false A (c.getD i A.zero)) off (cellsOf y)))
theorem xb(m:Mem Bw w0 ρ φ h w){o:Oper}{a:Act}{t:TypeId}{ti:TI}(ht:aQ P t ti){xo N:Operand}{id i off:Nat}{O:TypeId}{A:Ty}(hx:V (Fr (own φ h) Bw w) ρ (.adr id i A.size off) (a.eval xo))
  {y:ag} (hy:V (Fr (own φ h) Bw w) ρ y (a.eval N)) (hc:(cellsOf y).all ag.cell=true) (ho:o.op = .store t xo N) {xs:List A.den} {z:A.den} {Z:hZ}
  (hz:BW A h xs i off y=some (z,Z)) (a1:h id=some (.arr O A xs)) (hi:apply Z h id=some (.arr O A xs)) (f:(cellsOf y).length=ti.size) (ax:off+ti.size≤A.size) (D:i<xs.length) :
  Good P o a w (aE Bw w0 ρ φ h w new .unk (Z++[(id,some (.arr O A (xs.set i z)))])):=by
 obtain⟨m',a2,a3⟩:=mN m hz;obtain⟨u,Y,a4,hA,cells,r1,r2⟩:=m'.ob id _ hi;have a5:=fA hc hy;simp only[V]at hx;obtain⟨g,E,he⟩:=hx;obtain⟨h1,L,h3⟩:=a5;rcases r1.2 with⟨rfl,hn⟩ | ⟨M,cap,I,rfl,_,q,B,J,R,C⟩
 ·omega
 rw[Y]at E;have a6:M=g:=by
  rcases E with E | ⟨n,c,E⟩
  ·cases E
  ·simp only[Option.some.injEq,Value.slice.injEq,Addr.mk.injEq]at E;exact E.1.1
 subst a6;have a7:cells.length=xs.length*A.size:=r1.1;have b4:i*A.size+A.size≤xs.length*A.size:=by rw[←Nat.succ_mul];exact Nat.mul_le_mul_right _ D
 have a8:xs.length*A.size≤cap*A.size:=Nat.mul_le_mul_right _ B;have X:=iJ (P:=P) ht q (v:=a.eval N) (p:=i*A.size+off) (by rw[L,f]) (by rw[R];omega) h3;refine Good.kx (w':=_) (by simp[execOp,ho,Instr.storeAt,he,Instr.sureAddr,X];rfl) ?_;refine aE.after rfl a2 ?_;refine cQ m' (some id) id (.arr O A (xs.set i z)) (.slice (some ⟨M,0,none⟩) xs.length cap) (some M) (bf w M _) (fun k e=>⟨id,_,rfl,hi,rfl,a4 _ (by simpa [iB]using e)⟩) (.inr ⟨rfl,Y⟩)
  (fun _ k hk=> .inr (by simpa [iB]using hk)) (fun F' a9 hF aa=> ?_) (by rw[aZ];rfl) (fun e=>by rw[Y]at e;cases e) (fun F' a9 hF aa b1=>by simp only[V])
 refine⟨fun _ h=>h,hA,cells.take (i*A.size+off)++(a.eval N).cells.toList++cells.drop (i*A.size+off+ti.size),⟨?_,.inr ⟨M,cap,_,?_,Nat.zero_le _,setRow_heap w M I _ O _ q,?_,J,?_,?_⟩⟩,fun j hj=> ?_⟩
 ·simp only[List.length_append,List.length_take,List.length_drop,L,f,a7,List.length_set];omega
 ·rw[List.length_set]
 ·rw[List.length_set];exact B
 ·simp only[List.size_toArray,List.length_append,List.length_take,List.length_drop,Array.length_toList,L,f];omega
 ·rw[List.length_set,←C];have hq:xs.length*A.size≤I.toList.length:=by simp only[Array.length_toList];omega
  have:=uM (l:=I.toList) (vs:=(a.eval N).cells.toList) (p:=i*A.size+off) (m:=ti.size) (n:=xs.length*A.size) (by rw[L,f]) (by omega) hq;simpa using this
 ·rw[List.length_set]at hj;by_cases e:i=j
  ·subst e;simp only[List.getElem_set_self];refine ai.mono (hF _) (fun _ _ h=>h) (a3 _ ?_).1;simp only[cellsOf];obtain⟨u',p1,_,_,x,p2,p3⟩:=m.ob id _ a1;rw[Y]at p1;cases p1;have ac:x=cells:=by
    rcases p2.2 with⟨e,_⟩ | ⟨g2,b2,b3,e,_,e2,_,_,_,e3⟩
    ·cases e
    ·simp only[Value.slice.injEq,Option.some.injEq,Addr.mk.injEq,and_true,true_and]at e;obtain⟨rfl,_⟩:=e;rw[q]at e2;simp only[Option.some.injEq,Obj.cells.injEq,and_true]at e2;rw[←e3,←C,e2]
   subst ac;have ad:VL (Fr (own φ h) Bw w) ρ (flat false A (xs.getD i A.zero)) (fun k u=>x[i*A.size+k]? = some u):=xj D (p3 i D);have:=Ir (b:=i*A.size) (off:=off) (by rw[dR];omega) (by rw[dR,f];omega) L ad h1;rw[f]at this;exact this
  ·rw[List.getElem_set_ne e];refine ai.mono (hF _) (fun _ _ h=>h) (ai.fR (fun k v hk hv=> ?_) (r2 j hj));have b5:j*A.size+A.size≤xs.length*A.size:=by rw[←Nat.succ_mul];exact Nat.mul_le_mul_right _ hj
   rw[ig (by omega) (by rw[L,f])]
   ·exact hv
   ·rcases Nat.lt_or_gt_of_ne e with e' | e'
    ·have:i*A.size+A.size≤j*A.size:=by rw[←Nat.succ_mul];exact Nat.mul_le_mul_right _ e'
     omega
    ·have:j*A.size+A.size≤i*A.size:=by rw[←Nat.succ_mul];exact Nat.mul_le_mul_right _ e'
     omega
end
end Go.Tv
