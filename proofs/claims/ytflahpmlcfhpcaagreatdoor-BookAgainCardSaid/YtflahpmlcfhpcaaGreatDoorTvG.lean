import Derived.Test.YtflahpmlcfhpcaaGreatDoorTvF
import Derived.Laws.OwnMore
namespace Go.Tv
open Go Go.RowKit
def wr(e:List ag)(p:Nat)(new:List ag):List ag:=e.take p++new++e.drop (p+new.length)
theorem Ek{e new:List ag}{p:Nat}(h:p+new.length≤e.length):(wr e p new).length=e.length:=by
 simp only[wr,List.length_append,List.length_take,List.length_drop];omega
theorem DE{F:Bool→Addr→Value→Prop}{ρ:Nat→QW}{f new:List ag}{us j:QY}{p:Nat}(N:p+new.length≤f.length)(A:us.length=f.length)(B:j.length=new.length)
  (q:VL F ρ f (fun k u=>us[k]? = some u)) (C:VL F ρ new (fun k u=>j[k]? = some u)) :
  VL F ρ (wr f p new) (fun k u=>(us.take p++j++us.drop (p+new.length))[k]? = some u):=by
 refine VL.mk fun k x hk=>?_
 unfold wr at hk;have D:(f.take p++new).length=p+new.length:=by simp only[List.length_append,List.length_take];omega
 have E:(us.take p++j).length=p+new.length:=by simp only[List.length_append,List.length_take];omega
 have I:(f.take p).length=p:=by simp only[List.length_take];omega
 have J:(us.take p).length=p:=by simp only[List.length_take];omega
 rcases Nat.lt_or_ge k (p+new.length)with L | M
 ·rw[List.getElem?_append_left (by omega)]at hk;rw[List.getElem?_append_left (by omega)];rcases Nat.lt_or_ge k p with e | z
  ·rw[List.getElem?_append_left (by omega),List.getElem?_take,if_pos e]at hk;rw[List.getElem?_append_left (by omega),List.getElem?_take,if_pos e];exact VL.get q hk
  ·rw[List.getElem?_append_right (by omega),I]at hk;rw[List.getElem?_append_right (by omega),J];exact VL.get C hk
 ·rw[List.getElem?_append_right (by omega),D,List.getElem?_drop]at hk;rw[List.getElem?_append_right (by omega),E,List.getElem?_drop];exact VL.get q hk
theorem Cc{P:Program}{Bw:Nat→Prop}{w0:cw P}{w:World}{ρ:Nat→QW}{φ:Nat→Nat→Prop}{h:Nat→Qz}(m:Mem Bw w0 ρ φ h w){T:Ty}{x:ag}{y:T.den}{u:gZ}(hd:Ea T h x=some (y,u)):
  Mem Bw w0 ρ φ (apply u h) w∧(∀β a v,Fr (own φ h) Bw w β a v→Fr (own φ (apply u h)) Bw w β a v) ∧
  ∀g:Nat→Value→Prop,VL (Fr (own φ h) Bw w) ρ (cellsOf x) g→ah (Fr (own φ (apply u h)) Bw w false) T y g∧T.size=(cellsOf x).length:=by
 unfold Ea at hd;split at hd
 ·rename_i e D f;split at hd
  ·rename_i E j;cases hd;obtain⟨p,q,I,z⟩:=pa m f;refine⟨p,q,fun g A=>?_⟩;obtain⟨B,C,J⟩:=cQ j (z g A);refine⟨B,?_⟩;have:(e.drop T.size).length=0:=by rw[←C];rfl
   simp only[List.length_drop]at this;omega
  ·cases hd
 ·cases hd
theorem mI{P:Program}{Bw:Nat→Prop}{w0:cw P}{w:World}{ρ:Nat→QW}{φ:Nat→Nat→Prop}{h:Nat→Qz}(m:Mem Bw w0 ρ φ h w){T:Ty}{x:ag}{y:T.den}{u:gZ}(hd:Fa T h x=some (y,u)):
  Mem Bw w0 ρ φ (apply u h) w∧(∀β a v,Fr (own φ h) Bw w β a v→Fr (own φ (apply u h)) Bw w β a v) ∧
  ∀g:Nat→Value→Prop,VL (Fr (own φ h) Bw w) ρ (cellsOf x) g→ah (Fr (own φ (apply u h)) Bw w false) T y g∧T.size=(cellsOf x).length:=by
 unfold Fa at hd;split at hd
 ·rename_i A id i sz off;split at hd
  ·rename_i hz;split at hd
   ·rename_i cs hi;split at hd
    ·rename_i y' Z;cases hd;obtain⟨m',N⟩:=m.less (h':=bF h id none) (fun j o I=>by
      by_cases e:j=id
      ·subst e;rw[aB]at I;cases I
      ·rwa [aQ _ _ e]at I)
     refine⟨m',N,fun g E=>⟨?_,rfl⟩⟩;simp only[cellsOf,VL,V]at E;obtain⟨⟨u,O,b,hb,rfl⟩,_⟩:=E;obtain⟨u0,M,f,te,cells,rfl,C,r1,r2,r3⟩:=m.ob id _ hi;have J:f=b:=by
      rw[M]at hb;rcases hb with hb | ⟨n,c,hb⟩
      ·simpa using hb
      ·cases hb
     subst J;rw[hz]at O;obtain⟨r4,_,_⟩:=cQ Z r3;refine⟨⟨f,0,none⟩,O,ah.mono (N false) (fun k v hk=>?_) r4⟩;have hk:cells[k]? = some v:=hk;rw[cr];refine⟨fun⟨q,X,z,p2,p3⟩=>?_,fun _ L=>m.ow f ⟨id,_,hi,rfl,C⟩ (m.bw _ L),?_⟩
     ·have z:bF h id none q=some X:=z;have D:q≠id:=fun e=>by subst e;rw[aB]at z;cases z
      rw[aQ _ _ D]at z;exact D (m.dj q id X _ f z p2 hi rfl p3 C)
     ·rw[Nat.zero_add];exact World.fx (by rw[cell_of_row w f k cells te (0,0) r1];exact hk)
    ·cases hd
   ·rename_i k n xs cs hi;split at hd
    ·rename_i k' n' B;split at hd
     ·rename_i en;subst en;split at hd
      ·rename_i ek;subst ek;split at hd
       ·rename_i y' Z;cases hd;obtain⟨m',N⟩:=m.less (h':=bF h id none) (fun j o I=>by
         by_cases e:j=id
         ·subst e;rw[aB]at I;cases I
         ·rwa [aQ _ _ e]at I)
        refine⟨m',N,fun g E=>⟨?_,rfl⟩⟩;simp only[cellsOf,VL,V]at E;obtain⟨⟨u,O,b,hb,rfl⟩,_⟩:=E;obtain⟨u0,M,f,te,cells,rfl,C,r1,r2,r3,r4⟩:=m.ob id _ hi;have J:f=b:=by
         rw[M]at hb;rcases hb with hb | ⟨n,c,hb⟩
         ·simpa using hb
         ·cases hb
        subst J;rw[hz]at O;obtain⟨r5,_,_⟩:=cQ Z r4;have Y:∀k v,cells[k]? = some v→Fr (own φ (bF h id none)) Bw w false ⟨f,k,none⟩ v:=fun k v hk=>by
         refine⟨fun⟨q,X,z,p2,p3⟩=>?_,fun _ L=>m.ow f ⟨id,_,hi,rfl,C⟩ (m.bw _ L),World.fx (by rw[cell_of_row w f k cells te (0,0) r1];exact hk)⟩;have z:bF h id none q=some X:=z;have D:q≠id:=fun e=>by subst e;rw[aB]at z;cases z
         rw[aQ _ _ D]at z;exact D (m.dj q id X _ f z p2 hi rfl p3 C)
        refine⟨⟨f,0,none⟩,O,fun i hi=>?_,ah.mono (N false) (fun k v hk=>?_) r5⟩
        ·have:=Y i _ (r3 i hi);rw[show(⟨f,i,none⟩:Addr)=(⟨f,0,none⟩:Addr).add i by rw[cr,Nat.zero_add]]at this;exact this
        ·have hk:cells[n+k]? = some v:=hk;have:=Y (n+k) v hk;rw[show(⟨f,n+k,none⟩:Addr)=(⟨f,0,none⟩:Addr).add (n+k) by rw[cr,Nat.zero_add]]at this;exact this
       ·cases hd
      ·cases hd
     ·cases hd
    ·cases hd
   ·cases hd
  ·cases hd
 ·rename_i k n k' n' xs cs;split at hd
  ·split at hd
   ·rename_i en;subst en;split at hd
    ·rename_i ek;subst ek;cases hd;refine⟨m,fun _ _ _ h=>h,fun g E=>⟨fun i hi=>?_,by simp[cellsOf,Ty.size,xs.2]⟩⟩;simp only[cellsOf,List.append_nil]at E;obtain⟨u,M,q2⟩:=VL.get E (k:=i) (x:= .p false (.int k') xs.1[i]) (by rw[List.getElem?_map,List.getElem?_eq_getElem hi];rfl);rw[bX q2]at M;exact M
    ·cases hd
   ·cases hd
  ·cases hd
 ·exact Cc m hd
section
variable{P:Program}{Bw:Nat→Prop}{w0:cw P}{ρ:Nat→QW}{φ:Nat→Nat→Prop}{h:Nat→Qz}{w:World}{new:Nat}
theorem uR(m:Mem Bw w0 ρ φ h w){o:Oper}{a:Act}{t:TypeId}{ti:TI}(ht:aN P t ti){N D:Operand}{id i sz off:Nat}(O:V (Fr (own φ h) Bw w) ρ (.adr id i sz off) (a.eval N))
  {y:ag} (hy:V (Fr (own φ h) Bw w) ρ y (a.eval D)) (hc:(cellsOf y).all ag.cell=true) (ho:o.op = .store t N D) {z:List ag} (hi:h id=some (.box z))
  (f:(cellsOf y).length=ti.size) (j:i*sz+off+ti.size≤z.length) :
  Good P o a w (aF Bw w0 ρ φ h w new .unk [(id,some (.box (wr z (i*sz+off) (cellsOf y))))]):=by
 obtain⟨u,E,g,X,cells,rfl,I,Y,Z,r3⟩:=m.ob id _ hi;simp only[V]at O;obtain⟨g',x,he⟩:=O;rw[E]at x;have J:g=g':=by
  rcases x with x | ⟨n,c,x⟩
  ·simpa using x
  ·cases x
 subst J;obtain⟨h1,L,h3⟩:=fW hc hy;have B:=gM (P:=P) ht Y (v:=a.eval D) (p:=i*sz+off) (by rw[L,f]) (by rw[Z];exact j) h3;refine Good.jD (w':=_) (by simp[execOp,ho,Instr.storeAt,he,Instr.sureAddr,B];rfl) ?_;refine dY m (some id) id (.box (wr z (i*sz+off) (cellsOf y))) (.pointer (some ⟨g,0,none⟩)) (φ id) (some g) (ba w g _) (fun k e=>⟨id,_,rfl,hi,rfl,by cases e;assumption⟩) (.inr ⟨rfl,E⟩)
  (fun _ k hk=>Nat.lt_of_lt_of_le (m.lt id _ k hi rfl hk) (ba w g _).size) (fun _ k hk=> .inr ⟨id,_,rfl,hi,rfl,hk⟩) (fun F' C M q=>?_) (by rw[bm];rfl) (fun e=>by rw[E]at e;cases e) (fun F' C M q a1=>by simp only[V])
 refine⟨g,X,_,rfl,I,setRow_heap w g cells _ X _ Y,?_,?_⟩
 ·simp only[List.size_toArray,List.length_append,List.length_take,List.length_drop,Array.length_toList,L,f,wr];omega
 ·have h4:VL F' C z (fun k u=>cells.toList[k]? = some u):=VL.mono M q (fun k u hk=>by simpa using hk) r3;have:=DE (p:=i*sz+off) (by rw[f];exact j) (by simpa using Z) L h4 (VL.mono M q (fun _ _ h=>h) h1);rw[f]at this;exact VL.mono (fun _ _ _ h=>h) (fun _ _ h=>h) (fun k u hk=>by simpa using hk) this
theorem pV{t:TypeId}{ti:TI}(ht:aN P t ti)(C:ti.size=1){g p:Nat}{f:QU}{B:TypeId}{mk:Nat×Nat}(x:w.heap[g]? = some (.cells f B mk))(D:p<f.size)(z:mk=(0,0)∨mk=(f.size,f.size+1))
  {v:Value} (E:v.cells = #[v]) (I:v.oneCell'=true):(storeVar t ⟨g,p,none⟩ v).run P w = .ok () (w.setRow g (f.setIfInBounds p v)):=by
 have j:w.cell? ⟨g,p,none⟩=some f[p]:=by simp[World.cell?,x,D]
 have q:w.frozen? ⟨g,p,none⟩=false:=by rcases z with e | e <;> subst e <;> simp[World.frozen?,x] <;> omega
 unfold storeVar;rw[Sem.run_bind,run_sizeOf ht];simp only[Result.andThen_ok];rw[E,C];have A:(store ((⟨g,p,none⟩:Addr).add 0) v).run P w = .ok () (w.setRow g (f.setIfInBounds p v)):=by
  have u:(⟨g,p,none⟩:Addr).add 0=⟨g,p,none⟩:=by unfold Addr.add;split <;> simp_all
  rw[u,run_store P w _ v _ I,j];simp[q,setCell_eq_setRow w g p f B mk v x]
 simp[storeCells,Sem.run_bind,A]
theorem sJ(m:Mem Bw w0 ρ φ h w){o:Oper}{a:Act}{t:TypeId}{ti:TI}(ht:aN P t ti)(C:ti.size=1){D E:Operand}{id i:Nat}(Z:V (Fr (own φ h) Bw w) ρ (.adr id i 1 0) (a.eval D))
  {β:Bool} {v:Int} (hy:V (Fr (own φ h) Bw w) ρ (.p β (.int .u8) v) (a.eval E)) (ho:o.op = .store t D E) {B:TypeId} {xs:QK} (hi:h id=some (.bytes B xs)) (I:i<xs.length) :
  Good P o a w (aF Bw w0 ρ φ h w new .unk [(id,some (.bytes B (xs.set i v)))]):=by
 obtain⟨u,J,q2⟩:=m.ob id _ hi;simp only[V]at Z;obtain⟨g,q,he⟩:=Z;have x:=bX hy;rcases q2 with⟨rfl,hn⟩ | ⟨f,cap,L,mk,rfl,M,r1,r2,r3,r5,r6⟩
 ·subst hn;simp at I
 rw[J]at q;have N:f=g:=by
  rcases q with q | ⟨n,c,q⟩
  ·cases q
  ·simp only[Option.some.injEq,Value.slice.injEq,Addr.mk.injEq]at q;exact q.1.1
 subst N;have z:=pV (P:=P) ht C r1 (v:=a.eval E) (p:=i) (by omega) r2 (by rw[x];rfl) (by rw[x];rfl);have O:a.eval D = .pointer (some ⟨f,i,none⟩):=by rw[he];simp
 refine Good.jD (w':=_) (by simp[execOp,ho,Instr.storeAt,O,Instr.sureAddr,z];rfl) ?_;refine dY m (some id) id (.bytes B (xs.set i v)) (.slice (some ⟨f,0,none⟩) xs.length cap) (φ id) (some f) (ba w f _) (fun k e=>⟨id,_,rfl,hi,rfl,by cases e;assumption⟩) (.inr ⟨rfl,J⟩)
  (fun _ k hk=>Nat.lt_of_lt_of_le (m.lt id _ k hi rfl hk) (ba w f _).size) (fun _ k hk=> .inr ⟨id,_,rfl,hi,rfl,hk⟩) (fun F' X hF Y=>?_) (by rw[bm];rfl) (fun e=>by rw[J]at e;cases e) (fun F' X hF Y a1=>by simp only[V])
 refine .inr ⟨f,cap,_,mk,by rw[List.length_set],M,setRow_heap w f L _ B _ r1,?_,by rw[List.length_set];exact r3,by simpa using r5,fun j hj=>?_⟩
 ·rcases r2 with e | e
  ·exact .inl e
  ·exact .inr (by rw[e];simp)
 ·rw[List.length_set]at hj;by_cases e:i=j
  ·subst e;rw[x];simp only[List.getElem_set_self];rw[Array.getElem?_setIfInBounds_self_of_lt (by omega)]
  ·rw[List.getElem_set_ne e,Array.getElem?_setIfInBounds_ne e];exact r6 j hj
theorem Ij{F:Bool→Addr→Value→Prop}{ρ:Nat→QW}{cells vs:QY}{e new:List ag}{b off:Nat}(hb:b+e.length≤cells.length)(f:off+new.length≤e.length)(q:vs.length=new.length)
  (I:VL F ρ e (fun k u=>cells[b+k]? = some u)) (J:VL F ρ new (fun k u=>vs[k]? = some u)) :
  VL F ρ (wr e off new) (fun k u=>(cells.take (b+off)++vs++cells.drop (b+off+new.length))[b+k]? = some u):=by
 have L:VL F ρ e (fun k u=>((cells.drop b).take e.length)[k]? = some u):=VL.mk fun k x hk=>by obtain⟨u,M,N⟩:=VL.get I hk;have z:k<e.length:=(List.getElem?_eq_some_iff.1 hk).1;exact⟨u,by rw[List.getElem?_take,if_pos z,List.getElem?_drop];exact M,N⟩
 have O:=DE (p:=off) (us:=(cells.drop b).take e.length) f (by simp only[List.length_take,List.length_drop];omega) q L J;refine VL.mono (fun _ _ _ h=>h) (fun _ _ h=>h) (fun k u hk=>?_) O;have A:(((cells.drop b).take e.length).take off++vs).length=off+new.length:=by simp only[List.length_append,List.length_take,List.length_drop];omega
 have B:(cells.take (b+off)++vs).length=b+off+new.length:=by simp only[List.length_append,List.length_take];omega
 have C:(((cells.drop b).take e.length).take off).length=off:=by simp only[List.length_take,List.length_drop];omega
 have D:(cells.take (b+off)).length=b+off:=by simp only[List.length_take];omega
 rcases Nat.lt_or_ge k (off+new.length)with V | X
 ·rw[List.getElem?_append_left (by omega)]at hk;rw[List.getElem?_append_left (by omega)];rcases Nat.lt_or_ge k off with j | E
  ·rw[List.getElem?_append_left (by omega),List.getElem?_take,if_pos j,List.getElem?_take,if_pos (by omega),List.getElem?_drop]at hk;rw[List.getElem?_append_left (by omega),List.getElem?_take,if_pos (by omega)];exact hk
  ·rw[List.getElem?_append_right (by omega),C]at hk;rw[List.getElem?_append_right (by omega),D,show b+k - (b+off)=k - off by omega];exact hk
 ·rw[List.getElem?_append_right (by omega),A,List.getElem?_drop,List.getElem?_take]at hk;split at hk
  ·rw[List.getElem?_drop]at hk;rw[List.getElem?_append_right (by omega),B,List.getElem?_drop,←hk];congr 1;omega
  ·cases hk
theorem ix {cells vs:QY} {p n k:Nat} (j:p+n≤cells.length) (hn:vs.length=n) (hk:k<p∨p+n≤k):(cells.take p++vs++cells.drop (p+n))[k]? = cells[k]? :=by
 have e:(cells.take p).length=p:=by simp only[List.length_take];omega
 have f:(cells.take p++vs).length=p+n:=by simp only[List.length_append,e,hn]
 rcases hk with hk | hk
 ·rw[List.getElem?_append_left (by omega),List.getElem?_append_left (by omega),List.getElem?_take,if_pos hk]
 ·rw[List.getElem?_append_right (by omega),f,List.getElem?_drop];congr 1;omega
theorem sU{α:Type}{l vs:List α}{p m n:Nat}(e:vs.length=m)(j:p+m≤n)(q:n≤l.length):
  (l.take p++vs++l.drop (p+m)).take n=(l.take n).take p++vs++(l.take n).drop (p+m):=by
 have f:(l.take p).length=p:=by simp only[List.length_take];omega
 rw[List.append_assoc,List.append_assoc,List.take_append,List.take_append,f,e,List.take_of_length_le (by omega:(l.take p).length≤n),List.take_of_length_le (by omega:vs.length≤n - p),
  List.take_take,Nat.min_eq_left (by omega),List.drop_take,Nat.sub_sub]
theorem ah.gD{F:Addr→Value→Prop}:∀ {T:Ty} {x:T.den} {g g':Nat→Value→Prop},(∀k v,k<T.size→g k v→g' k v)→ah F T x g→ah F T x g'
 | .int _,_,_,_,f,h=>f _ _ (by simp[Ty.size]) h
 | .bool,_,_,_,f,h=>f _ _ (by simp[Ty.size]) h
 | .str,_,_,_,f,h=>f _ _ (by simp[Ty.size]) h
 | .flt,_,_,_,f,⟨m,h,e⟩=>⟨m,f _ _ (by simp[Ty.size]) h,e⟩
 | .unit,_,_,_,_,_=>trivial
 | .prod a b,x,_,_,f,h=>⟨ah.gD (T:=a) (fun k v hk=>f k v (by simp only[Ty.size];omega)) h.1,ah.gD (T:=b) (fun k v hk=>f _ v (by simp only[Ty.size];omega)) h.2⟩
 | .slice a,xs,_,_,f,⟨ad,len,cap,j,hl,h⟩=>⟨ad,len,cap,f _ _ (by simp[Ty.size]) j,hl,h⟩
 | .ptr a,none,_,_,f,h=>f _ _ (by simp[Ty.size]) h
 | .ptr a,some y,_,_,f,⟨b,j,q⟩=>⟨b,f _ _ (by simp[Ty.size]) j,q⟩
 | .tree z B,t,_,_,f,h=>gw.mono (fun _ _ h=>h) (fun k v hk=>f k v (by simpa [Ty.size]using hk)) h
 | .arr _ _,x,_,_,f,h=>fun i hi=>f _ _ (by rw[x.2]at hi;exact hi) (h i hi)
 | .mapi _ _,_,_,_,f,⟨r,j,h⟩=>⟨r,f _ _ (by simp[Ty.size]) j,h⟩
def zI(A:Ty)(h:Nat→Qz)(e:List A.den)(i off:Nat)(y:ag):Option (A.den×gZ) :=
 Fa A h (.agg (wr (flat false A (e.getD i A.zero)) off (cellsOf y)))
theorem wi(m:Mem Bw w0 ρ φ h w){o:Oper}{a:Act}{t:TypeId}{ti:TI}(ht:aN P t ti){xo N:Operand}{id i off:Nat}{O:TypeId}{A:Ty}(hx:V (Fr (own φ h) Bw w) ρ (.adr id i A.size off) (a.eval xo))
  {y:ag} (hy:V (Fr (own φ h) Bw w) ρ y (a.eval N)) (hc:(cellsOf y).all ag.cell=true) (ho:o.op = .store t xo N) {xs:List A.den} {z:A.den} {us:gZ}
  (hz:zI A h xs i off y=some (z,us)) (a1:h id=some (.arr O A xs)) (hi:apply us h id=some (.arr O A xs)) (f:(cellsOf y).length=ti.size) (ax:off+ti.size≤A.size) (D:i<xs.length) :
  Good P o a w (aF Bw w0 ρ φ h w new .unk (us++[(id,some (.arr O A (xs.set i z)))])):=by
 obtain⟨m',a2,a3⟩:=mI m hz;obtain⟨u,Z,a4,hA,cells,r1,r2⟩:=m'.ob id _ hi;have a5:=fW hc hy;simp only[V]at hx;obtain⟨g,E,he⟩:=hx;obtain⟨h1,L,h3⟩:=a5;rcases r1.2 with⟨rfl,hn⟩ | ⟨M,cap,I,rfl,_,q,B,J,X,C⟩
 ·omega
 rw[Z]at E;have a6:M=g:=by
  rcases E with E | ⟨n,c,E⟩
  ·cases E
  ·simp only[Option.some.injEq,Value.slice.injEq,Addr.mk.injEq]at E;exact E.1.1
 subst a6;have a7:cells.length=xs.length*A.size:=r1.1;have b4:i*A.size+A.size≤xs.length*A.size:=by rw[←Nat.succ_mul];exact Nat.mul_le_mul_right _ D
 have a8:xs.length*A.size≤cap*A.size:=Nat.mul_le_mul_right _ B;have Y:=gM (P:=P) ht q (v:=a.eval N) (p:=i*A.size+off) (by rw[L,f]) (by rw[X];omega) h3;refine Good.jD (w':=_) (by simp[execOp,ho,Instr.storeAt,he,Instr.sureAddr,Y];rfl) ?_;refine aF.after rfl a2 ?_;refine cV m' (some id) id (.arr O A (xs.set i z)) (.slice (some ⟨M,0,none⟩) xs.length cap) (some M) (ba w M _) (fun k e=>⟨id,_,rfl,hi,rfl,a4 _ (by simpa [dx]using e)⟩) (.inr ⟨rfl,Z⟩)
  (fun _ k hk=> .inr (by simpa [dx]using hk)) (fun F' a9 hF aa=>?_) (by rw[bm];rfl) (fun e=>by rw[Z]at e;cases e) (fun F' a9 hF aa b1=>by simp only[V])
 refine⟨fun _ h=>h,hA,cells.take (i*A.size+off)++(a.eval N).cells.toList++cells.drop (i*A.size+off+ti.size),⟨?_,.inr ⟨M,cap,_,?_,Nat.zero_le _,setRow_heap w M I _ O _ q,?_,J,?_,?_⟩⟩,fun j hj=>?_⟩
 ·simp only[List.length_append,List.length_take,List.length_drop,L,f,a7,List.length_set];omega
 ·rw[List.length_set]
 ·rw[List.length_set];exact B
 ·simp only[List.size_toArray,List.length_append,List.length_take,List.length_drop,Array.length_toList,L,f];omega
 ·rw[List.length_set,←C];have hq:xs.length*A.size≤I.toList.length:=by simp only[Array.length_toList];omega
  have:=sU (l:=I.toList) (vs:=(a.eval N).cells.toList) (p:=i*A.size+off) (m:=ti.size) (n:=xs.length*A.size) (by rw[L,f]) (by omega) hq;simpa using this
 ·rw[List.length_set]at hj;by_cases e:i=j
  ·subst e;simp only[List.getElem_set_self];refine ah.mono (hF _) (fun _ _ h=>h) (a3 _ ?_).1;simp only[cellsOf];obtain⟨u',p1,_,_,x,p2,p3⟩:=m.ob id _ a1;rw[Z]at p1;cases p1;have ac:x=cells:=by
    rcases p2.2 with⟨e,_⟩ | ⟨g2,b2,b3,e,_,e2,_,_,_,e3⟩
    ·cases e
    ·simp only[Value.slice.injEq,Option.some.injEq,Addr.mk.injEq,and_true,true_and]at e;obtain⟨rfl,_⟩:=e;rw[q]at e2;simp only[Option.some.injEq,Obj.cells.injEq,and_true]at e2;rw[←e3,←C,e2]
   subst ac;have ad:VL (Fr (own φ h) Bw w) ρ (flat false A (xs.getD i A.zero)) (fun k u=>x[i*A.size+k]? = some u):=uG D (p3 i D);have:=Ij (b:=i*A.size) (off:=off) (by rw[eW];omega) (by rw[eW,f];omega) L ad h1;rw[f]at this;exact this
  ·rw[List.getElem_set_ne e];refine ah.mono (hF _) (fun _ _ h=>h) (ah.gD (fun k v hk hv=>?_) (r2 j hj));have b5:j*A.size+A.size≤xs.length*A.size:=by rw[←Nat.succ_mul];exact Nat.mul_le_mul_right _ hj
   rw[ix (by omega) (by rw[L,f])]
   ·exact hv
   ·rcases Nat.lt_or_gt_of_ne e with e' | e'
    ·have:i*A.size+A.size≤j*A.size:=by rw[←Nat.succ_mul];exact Nat.mul_le_mul_right _ e'
     omega
    ·have:j*A.size+A.size≤i*A.size:=by rw[←Nat.succ_mul];exact Nat.mul_le_mul_right _ e'
     omega
end
end Go.Tv
