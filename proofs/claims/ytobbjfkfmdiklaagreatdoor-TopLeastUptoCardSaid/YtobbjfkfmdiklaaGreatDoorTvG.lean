import Derived.Test.YtobbjfkfmdiklaaGreatDoorTvF
import Derived.Laws.OwnMore
namespace Go.Tv
open Go Go.RowKit
def wr(f:List af)(p:Nat)(new:List af):List af:=f.take p++new++f.drop (p+new.length)
theorem FG{f new:List af}{p:Nat}(h:p+new.length≤f.length):(wr f p new).length=f.length:=by
 simp only[wr,List.length_append,List.length_take,List.length_drop];omega
theorem Es{F:Bool→Addr→Value→Prop}{ρ:Nat→QW}{j new:List af}{us q:QY}{p:Nat}(hp:p+new.length≤j.length)(A:us.length=j.length)(B:q.length=new.length)
  (h1:VL F ρ j (fun k u=>us[k]? = some u)) (h2:VL F ρ new (fun k u=>q[k]? = some u)) :
  VL F ρ (wr j p new) (fun k u=>(us.take p++q++us.drop (p+new.length))[k]? = some u):=by
 refine VL.mk fun k x hk=>?_
 unfold wr at hk;have C:(j.take p++new).length=p+new.length:=by simp only[List.length_append,List.length_take];omega
 have D:(us.take p++q).length=p+new.length:=by simp only[List.length_append,List.length_take];omega
 have E:(j.take p).length=p:=by simp only[List.length_take];omega
 have I:(us.take p).length=p:=by simp only[List.length_take];omega
 rcases Nat.lt_or_ge k (p+new.length)with J | L
 ·rw[List.getElem?_append_left (by omega)]at hk;rw[List.getElem?_append_left (by omega)];rcases Nat.lt_or_ge k p with f | z
  ·rw[List.getElem?_append_left (by omega),List.getElem?_take,if_pos f]at hk;rw[List.getElem?_append_left (by omega),List.getElem?_take,if_pos f];exact VL.get h1 hk
  ·rw[List.getElem?_append_right (by omega),E]at hk;rw[List.getElem?_append_right (by omega),I];exact VL.get h2 hk
 ·rw[List.getElem?_append_right (by omega),C,List.getElem?_drop]at hk;rw[List.getElem?_append_right (by omega),D,List.getElem?_drop];exact VL.get h1 hk
theorem DF{P:Program}{Bw:Nat→Prop}{w0:cr P}{w:World}{ρ:Nat→QW}{φ:Nat→Nat→Prop}{h:Nat→Qz}(m:Mem Bw w0 ρ φ h w){T:Ty}{x:af}{y:T.den}{u:gZ}(hd:Fj T h x=some (y,u)):
  Mem Bw w0 ρ φ (apply u h) w∧(∀β a v,Fr (own φ h) Bw w β a v→Fr (own φ (apply u h)) Bw w β a v) ∧
  ∀g:Nat→Value→Prop,VL (Fr (own φ h) Bw w) ρ (cellsOf x) g→ah (Fr (own φ (apply u h)) Bw w false) T y g∧T.size=(cellsOf x).length:=by
 unfold Fj at hd;split at hd
 ·rename_i f C h1;split at hd
  ·rename_i D h2;cases hd;obtain⟨j,p,E,q⟩:=oU m h1;refine⟨j,p,fun g z=>?_⟩;obtain⟨A,B,I⟩:=cN h2 (q g z);refine⟨A,?_⟩;have:(f.drop T.size).length=0:=by rw[←B];rfl
   simp only[List.length_drop]at this;omega
  ·cases hd
 ·cases hd
theorem m6{P:Program}{Bw:Nat→Prop}{w0:cr P}{w:World}{ρ:Nat→QW}{φ:Nat→Nat→Prop}{h:Nat→Qz}(m:Mem Bw w0 ρ φ h w){T:Ty}{x:af}{y:T.den}{u:gZ}(hd:F1 T h x=some (y,u)):
  Mem Bw w0 ρ φ (apply u h) w∧(∀β a v,Fr (own φ h) Bw w β a v→Fr (own φ (apply u h)) Bw w β a v) ∧
  ∀g:Nat→Value→Prop,VL (Fr (own φ h) Bw w) ρ (cellsOf x) g→ah (Fr (own φ (apply u h)) Bw w false) T y g∧T.size=(cellsOf x).length:=by
 unfold F1 at hd;split at hd
 ·rename_i A id i sz off;split at hd
  ·rename_i hz;split at hd
   ·rename_i cs hi;split at hd
    ·rename_i y' h2;cases hd;obtain⟨Z,N⟩:=m.less (h':=bG h id none) (fun j o I=>by
      by_cases e:j=id
      ·subst e;rw[aB]at I;cases I
      ·rwa [aR _ _ e]at I)
     refine⟨Z,N,fun g E=>⟨?_,rfl⟩⟩;simp only[cellsOf,VL,V]at E;obtain⟨⟨u,O,b,hb,rfl⟩,_⟩:=E;obtain⟨u0,M,f,te,cells,rfl,C,r1,r2,r3⟩:=m.ob id _ hi;have J:f=b:=by
      rw[M]at hb;rcases hb with hb | ⟨n,c,hb⟩
      ·simpa using hb
      ·cases hb
     subst J;rw[hz]at O;obtain⟨r4,_,_⟩:=cN h2 r3;refine⟨⟨f,0,none⟩,O,ah.mono (N false) (fun k v hk=>?_) r4⟩;have hk:cells[k]? = some v:=hk;rw[cj];refine⟨fun⟨q,X,z,p2,p3⟩=>?_,fun _ L=>m.ow f ⟨id,_,hi,rfl,C⟩ (m.bw _ L),?_⟩
     ·have z:bG h id none q=some X:=z;have D:q≠id:=fun e=>by subst e;rw[aB]at z;cases z
      rw[aR _ _ D]at z;exact D (m.dj q id X _ f z p2 hi rfl p3 C)
     ·rw[Nat.zero_add];exact World.fk (by rw[cell_of_row w f k cells te (0,0) r1];exact hk)
    ·cases hd
   ·rename_i k n xs cs hi;split at hd
    ·rename_i k' n' B;split at hd
     ·rename_i en;subst en;split at hd
      ·rename_i ek;subst ek;split at hd
       ·rename_i y' h2;cases hd;obtain⟨Z,N⟩:=m.less (h':=bG h id none) (fun j o I=>by
         by_cases e:j=id
         ·subst e;rw[aB]at I;cases I
         ·rwa [aR _ _ e]at I)
        refine⟨Z,N,fun g E=>⟨?_,rfl⟩⟩;simp only[cellsOf,VL,V]at E;obtain⟨⟨u,O,b,hb,rfl⟩,_⟩:=E;obtain⟨u0,M,f,te,cells,rfl,C,r1,r2,r3,r4⟩:=m.ob id _ hi;have J:f=b:=by
         rw[M]at hb;rcases hb with hb | ⟨n,c,hb⟩
         ·simpa using hb
         ·cases hb
        subst J;rw[hz]at O;obtain⟨r5,_,_⟩:=cN h2 r4;have Y:∀k v,cells[k]? = some v→Fr (own φ (bG h id none)) Bw w false ⟨f,k,none⟩ v:=fun k v hk=>by
         refine⟨fun⟨q,X,z,p2,p3⟩=>?_,fun _ L=>m.ow f ⟨id,_,hi,rfl,C⟩ (m.bw _ L),World.fk (by rw[cell_of_row w f k cells te (0,0) r1];exact hk)⟩;have z:bG h id none q=some X:=z;have D:q≠id:=fun e=>by subst e;rw[aB]at z;cases z
         rw[aR _ _ D]at z;exact D (m.dj q id X _ f z p2 hi rfl p3 C)
        refine⟨⟨f,0,none⟩,O,fun i hi=>?_,ah.mono (N false) (fun k v hk=>?_) r5⟩
        ·have:=Y i _ (r3 i hi);rw[show(⟨f,i,none⟩:Addr)=(⟨f,0,none⟩:Addr).add i by rw[cj,Nat.zero_add]]at this;exact this
        ·have hk:cells[n+k]? = some v:=hk;have:=Y (n+k) v hk;rw[show(⟨f,n+k,none⟩:Addr)=(⟨f,0,none⟩:Addr).add (n+k) by rw[cj,Nat.zero_add]]at this;exact this
       ·cases hd
      ·cases hd
     ·cases hd
    ·cases hd
   ·cases hd
  ·cases hd
 ·rename_i k n k' n' xs cs;split at hd
  ·split at hd
   ·rename_i en;subst en;split at hd
    ·rename_i ek;subst ek;cases hd;refine⟨m,fun _ _ _ h=>h,fun g E=>⟨fun i hi=>?_,by simp[cellsOf,Ty.size,xs.2]⟩⟩;simp only[cellsOf,List.append_nil]at E;obtain⟨u,M,q2⟩:=VL.get E (k:=i) (x:= .p false (.int k') xs.1[i]) (by rw[List.getElem?_map,List.getElem?_eq_getElem hi];rfl);rw[bV q2]at M;exact M
    ·cases hd
   ·cases hd
  ·cases hd
 ·exact DF m hd
section
variable{P:Program}{Bw:Nat→Prop}{w0:cr P}{ρ:Nat→QW}{φ:Nat→Nat→Prop}{h:Nat→Qz}{w:World}{new:Nat}
theorem xd(m:Mem Bw w0 ρ φ h w){o:Oper}{a:Act}{t:TypeId}{ti:TI}(ht:aO P t ti){M D:Operand}{id i sz off:Nat}(N:V (Fr (own φ h) Bw w) ρ (.adr id i sz off) (a.eval M))
  {y:af} (hy:V (Fr (own φ h) Bw w) ρ y (a.eval D)) (hc:(cellsOf y).all af.cell=true) (ho:o.op = .store t M D) {z:List af} (hi:h id=some (.box z))
  (f:(cellsOf y).length=ti.size) (j:i*sz+off+ti.size≤z.length) :
  Good P o a w (aF Bw w0 ρ φ h w new .unk [(id,some (.box (wr z (i*sz+off) (cellsOf y))))]):=by
 obtain⟨u,E,g,O,cells,rfl,I,X,Y,r3⟩:=m.ob id _ hi;simp only[V]at N;obtain⟨g',x,he⟩:=N;rw[E]at x;have J:g=g':=by
  rcases x with x | ⟨n,c,x⟩
  ·simpa using x
  ·cases x
 subst J;obtain⟨h1,h2,h3⟩:=fV hc hy;have B:=gK (P:=P) ht X (v:=a.eval D) (p:=i*sz+off) (by rw[h2,f]) (by rw[Y];exact j) h3;refine Good.jM (w':=_) (by simp[execOp,ho,Instr.storeAt,he,Instr.sureAddr,B];rfl) ?_;refine dR m (some id) id (.box (wr z (i*sz+off) (cellsOf y))) (.pointer (some ⟨g,0,none⟩)) (φ id) (some g) (ba w g _) (fun k e=>⟨id,_,rfl,hi,rfl,by cases e;assumption⟩) (.inr ⟨rfl,E⟩)
  (fun _ k hk=>Nat.lt_of_lt_of_le (m.lt id _ k hi rfl hk) (ba w g _).size) (fun _ k hk=> .inr ⟨id,_,rfl,hi,rfl,hk⟩) (fun F' C L q=>?_) (by rw[bm];rfl) (fun e=>by rw[E]at e;cases e) (fun F' C L q Z=>by simp only[V])
 refine⟨g,O,_,rfl,I,setRow_heap w g cells _ O _ X,?_,?_⟩
 ·simp only[List.size_toArray,List.length_append,List.length_take,List.length_drop,Array.length_toList,h2,f,wr];omega
 ·have h4:VL F' C z (fun k u=>cells.toList[k]? = some u):=VL.mono L q (fun k u hk=>by simpa using hk) r3;have:=Es (p:=i*sz+off) (by rw[f];exact j) (by simpa using Y) h2 h4 (VL.mono L q (fun _ _ h=>h) h1);rw[f]at this;exact VL.mono (fun _ _ _ h=>h) (fun _ _ h=>h) (fun k u hk=>by simpa using hk) this
theorem qo{t:TypeId}{ti:TI}(ht:aO P t ti)(C:ti.size=1){g p:Nat}{f:QU}{B:TypeId}{mk:Nat×Nat}(x:w.heap[g]? = some (.cells f B mk))(hp:p<f.size)(z:mk=(0,0)∨mk=(f.size,f.size+1))
  {v:Value} (D:v.cells = #[v]) (h1:v.oneCell'=true):(storeVar t ⟨g,p,none⟩ v).run P w = .ok () (w.setRow g (f.setIfInBounds p v)):=by
 have j:w.cell? ⟨g,p,none⟩=some f[p]:=by simp[World.cell?,x,hp]
 have q:w.frozen? ⟨g,p,none⟩=false:=by rcases z with e | e <;> subst e <;> simp[World.frozen?,x] <;> omega
 unfold storeVar;rw[Sem.run_bind,run_sizeOf ht];simp only[Result.andThen_ok];rw[D,C];have A:(store ((⟨g,p,none⟩:Addr).add 0) v).run P w = .ok () (w.setRow g (f.setIfInBounds p v)):=by
  have u:(⟨g,p,none⟩:Addr).add 0=⟨g,p,none⟩:=by unfold Addr.add;split <;> simp_all
  rw[u,run_store P w _ v _ h1,j];simp[q,setCell_eq_setRow w g p f B mk v x]
 simp[storeCells,Sem.run_bind,A]
theorem tq(m:Mem Bw w0 ρ φ h w){o:Oper}{a:Act}{t:TypeId}{ti:TI}(ht:aO P t ti)(C:ti.size=1){D E:Operand}{id i:Nat}(Z:V (Fr (own φ h) Bw w) ρ (.adr id i 1 0) (a.eval D))
  {β:Bool} {v:Int} (hy:V (Fr (own φ h) Bw w) ρ (.p β (.int .u8) v) (a.eval E)) (ho:o.op = .store t D E) {B:TypeId} {xs:QK} (hi:h id=some (.bytes B xs)) (I:i<xs.length) :
  Good P o a w (aF Bw w0 ρ φ h w new .unk [(id,some (.bytes B (xs.set i v)))]):=by
 obtain⟨u,J,q2⟩:=m.ob id _ hi;simp only[V]at Z;obtain⟨g,q,he⟩:=Z;have x:=bV hy;rcases q2 with⟨rfl,hn⟩ | ⟨f,cap,L,mk,rfl,M,r1,r2,r3,r5,r6⟩
 ·subst hn;simp at I
 rw[J]at q;have N:f=g:=by
  rcases q with q | ⟨n,c,q⟩
  ·cases q
  ·simp only[Option.some.injEq,Value.slice.injEq,Addr.mk.injEq]at q;exact q.1.1
 subst N;have z:=qo (P:=P) ht C r1 (v:=a.eval E) (p:=i) (by omega) r2 (by rw[x];rfl) (by rw[x];rfl);have O:a.eval D = .pointer (some ⟨f,i,none⟩):=by rw[he];simp
 refine Good.jM (w':=_) (by simp[execOp,ho,Instr.storeAt,O,Instr.sureAddr,z];rfl) ?_;refine dR m (some id) id (.bytes B (xs.set i v)) (.slice (some ⟨f,0,none⟩) xs.length cap) (φ id) (some f) (ba w f _) (fun k e=>⟨id,_,rfl,hi,rfl,by cases e;assumption⟩) (.inr ⟨rfl,J⟩)
  (fun _ k hk=>Nat.lt_of_lt_of_le (m.lt id _ k hi rfl hk) (ba w f _).size) (fun _ k hk=> .inr ⟨id,_,rfl,hi,rfl,hk⟩) (fun F' X hF Y=>?_) (by rw[bm];rfl) (fun e=>by rw[J]at e;cases e) (fun F' X hF Y a1=>by simp only[V])
 refine .inr ⟨f,cap,_,mk,by rw[List.length_set],M,setRow_heap w f L _ B _ r1,?_,by rw[List.length_set];exact r3,by simpa using r5,fun j hj=>?_⟩
 ·rcases r2 with e | e
  ·exact .inl e
  ·exact .inr (by rw[e];simp)
 ·rw[List.length_set]at hj;by_cases e:i=j
  ·subst e;rw[x];simp only[List.getElem_set_self];rw[Array.getElem?_setIfInBounds_self_of_lt (by omega)]
  ·rw[List.getElem_set_ne e,Array.getElem?_setIfInBounds_ne e];exact r6 j hj
theorem I3{F:Bool→Addr→Value→Prop}{ρ:Nat→QW}{cells vs:QY}{f new:List af}{b off:Nat}(hb:b+f.length≤cells.length)(j:off+new.length≤f.length)(z:vs.length=new.length)
  (h1:VL F ρ f (fun k u=>cells[b+k]? = some u)) (h2:VL F ρ new (fun k u=>vs[k]? = some u)) :
  VL F ρ (wr f off new) (fun k u=>(cells.take (b+off)++vs++cells.drop (b+off+new.length))[b+k]? = some u):=by
 have J:VL F ρ f (fun k u=>((cells.drop b).take f.length)[k]? = some u):=VL.mk fun k x hk=>by obtain⟨u,L,M⟩:=VL.get h1 hk;have A:k<f.length:=(List.getElem?_eq_some_iff.1 hk).1;exact⟨u,by rw[List.getElem?_take,if_pos A,List.getElem?_drop];exact L,M⟩
 have N:=Es (p:=off) (us:=(cells.drop b).take f.length) j (by simp only[List.length_take,List.length_drop];omega) z J h2;refine VL.mono (fun _ _ _ h=>h) (fun _ _ h=>h) (fun k u hk=>?_) N;have B:(((cells.drop b).take f.length).take off++vs).length=off+new.length:=by simp only[List.length_append,List.length_take,List.length_drop];omega
 have C:(cells.take (b+off)++vs).length=b+off+new.length:=by simp only[List.length_append,List.length_take];omega
 have D:(((cells.drop b).take f.length).take off).length=off:=by simp only[List.length_take,List.length_drop];omega
 have E:(cells.take (b+off)).length=b+off:=by simp only[List.length_take];omega
 rcases Nat.lt_or_ge k (off+new.length)with O | V
 ·rw[List.getElem?_append_left (by omega)]at hk;rw[List.getElem?_append_left (by omega)];rcases Nat.lt_or_ge k off with q | I
  ·rw[List.getElem?_append_left (by omega),List.getElem?_take,if_pos q,List.getElem?_take,if_pos (by omega),List.getElem?_drop]at hk;rw[List.getElem?_append_left (by omega),List.getElem?_take,if_pos (by omega)];exact hk
  ·rw[List.getElem?_append_right (by omega),D]at hk;rw[List.getElem?_append_right (by omega),E,show b+k - (b+off)=k - off by omega];exact hk
 ·rw[List.getElem?_append_right (by omega),B,List.getElem?_drop,List.getElem?_take]at hk;split at hk
  ·rw[List.getElem?_drop]at hk;rw[List.getElem?_append_right (by omega),C,List.getElem?_drop,←hk];congr 1;omega
  ·cases hk
theorem iz {cells vs:QY} {p n k:Nat} (hp:p+n≤cells.length) (hn:vs.length=n) (hk:k<p∨p+n≤k):(cells.take p++vs++cells.drop (p+n))[k]? = cells[k]? :=by
 have f:(cells.take p).length=p:=by simp only[List.length_take];omega
 have j:(cells.take p++vs).length=p+n:=by simp only[List.length_append,f,hn]
 rcases hk with hk | hk
 ·rw[List.getElem?_append_left (by omega),List.getElem?_append_left (by omega),List.getElem?_take,if_pos hk]
 ·rw[List.getElem?_append_right (by omega),j,List.getElem?_drop];congr 1;omega
theorem uj{α:Type}{l vs:List α}{p m n:Nat}(h1:vs.length=m)(h2:p+m≤n)(j:n≤l.length):
  (l.take p++vs++l.drop (p+m)).take n=(l.take n).take p++vs++(l.take n).drop (p+m):=by
 have f:(l.take p).length=p:=by simp only[List.length_take];omega
 rw[List.append_assoc,List.append_assoc,List.take_append,List.take_append,f,h1,List.take_of_length_le (by omega:(l.take p).length≤n),List.take_of_length_le (by omega:vs.length≤n - p),
  List.take_take,Nat.min_eq_left (by omega),List.drop_take,Nat.sub_sub]
theorem ah.gw{F:Addr→Value→Prop}:∀ {T:Ty} {x:T.den} {g g':Nat→Value→Prop},(∀k v,k<T.size→g k v→g' k v)→ah F T x g→ah F T x g'
 | .int _,_,_,_,f,h=>f _ _ (by simp[Ty.size]) h
 | .bool,_,_,_,f,h=>f _ _ (by simp[Ty.size]) h
 | .str,_,_,_,f,h=>f _ _ (by simp[Ty.size]) h
 | .flt,_,_,_,f,⟨m,h,e⟩=>⟨m,f _ _ (by simp[Ty.size]) h,e⟩
 | .unit,_,_,_,_,_=>trivial
 | .prod a b,x,_,_,f,h=>⟨ah.gw (T:=a) (fun k v hk=>f k v (by simp only[Ty.size];omega)) h.1,ah.gw (T:=b) (fun k v hk=>f _ v (by simp only[Ty.size];omega)) h.2⟩
 | .slice a,xs,_,_,f,⟨ad,len,cap,j,hl,h⟩=>⟨ad,len,cap,f _ _ (by simp[Ty.size]) j,hl,h⟩
 | .ptr a,none,_,_,f,h=>f _ _ (by simp[Ty.size]) h
 | .ptr a,some y,_,_,f,⟨b,j,q⟩=>⟨b,f _ _ (by simp[Ty.size]) j,q⟩
 | .tree z B,t,_,_,f,h=>gy.mono (fun _ _ h=>h) (fun k v hk=>f k v (by simpa [Ty.size]using hk)) h
 | .arr _ _,x,_,_,f,h=>fun i hi=>f _ _ (by rw[x.2]at hi;exact hi) (h i hi)
 | .mapi _ _,_,_,_,f,⟨r,j,h⟩=>⟨r,f _ _ (by simp[Ty.size]) j,h⟩
def Cb(A:Ty)(h:Nat→Qz)(f:List A.den)(i off:Nat)(y:af):Option (A.den×gZ) :=
 F1 A h (.agg (wr (flat false A (f.getD i A.zero)) off (cellsOf y)))
theorem w8(m:Mem Bw w0 ρ φ h w){o:Oper}{a:Act}{t:TypeId}{ti:TI}(ht:aO P t ti){xo M:Operand}{id i off:Nat}{N:TypeId}{A:Ty}(hx:V (Fr (own φ h) Bw w) ρ (.adr id i A.size off) (a.eval xo))
  {y:af} (hy:V (Fr (own φ h) Bw w) ρ y (a.eval M)) (hc:(cellsOf y).all af.cell=true) (ho:o.op = .store t xo M) {xs:List A.den} {z:A.den} {Z:gZ}
  (hz:Cb A h xs i off y=some (z,Z)) (a1:h id=some (.arr N A xs)) (hi:apply Z h id=some (.arr N A xs)) (f:(cellsOf y).length=ti.size) (ax:off+ti.size≤A.size) (D:i<xs.length) :
  Good P o a w (aF Bw w0 ρ φ h w new .unk (Z++[(id,some (.arr N A (xs.set i z)))])):=by
 obtain⟨m',a2,a3⟩:=m6 m hz;obtain⟨u,Y,a4,hA,cells,r1,r2⟩:=m'.ob id _ hi;have a5:=fV hc hy;simp only[V]at hx;obtain⟨g,E,he⟩:=hx;obtain⟨h1,h2,h3⟩:=a5;rcases r1.2 with⟨rfl,hn⟩ | ⟨L,cap,I,rfl,_,q,B,J,O,C⟩
 ·omega
 rw[Y]at E;have a6:L=g:=by
  rcases E with E | ⟨n,c,E⟩
  ·cases E
  ·simp only[Option.some.injEq,Value.slice.injEq,Addr.mk.injEq]at E;exact E.1.1
 subst a6;have a7:cells.length=xs.length*A.size:=r1.1;have b4:i*A.size+A.size≤xs.length*A.size:=by rw[←Nat.succ_mul];exact Nat.mul_le_mul_right _ D
 have a8:xs.length*A.size≤cap*A.size:=Nat.mul_le_mul_right _ B;have X:=gK (P:=P) ht q (v:=a.eval M) (p:=i*A.size+off) (by rw[h2,f]) (by rw[O];omega) h3;refine Good.jM (w':=_) (by simp[execOp,ho,Instr.storeAt,he,Instr.sureAddr,X];rfl) ?_;refine aF.after rfl a2 ?_;refine cO m' (some id) id (.arr N A (xs.set i z)) (.slice (some ⟨L,0,none⟩) xs.length cap) (some L) (ba w L _) (fun k e=>⟨id,_,rfl,hi,rfl,a4 _ (by simpa [dp]using e)⟩) (.inr ⟨rfl,Y⟩)
  (fun _ k hk=> .inr (by simpa [dp]using hk)) (fun F' a9 hF aa=>?_) (by rw[bm];rfl) (fun e=>by rw[Y]at e;cases e) (fun F' a9 hF aa b1=>by simp only[V])
 refine⟨fun _ h=>h,hA,cells.take (i*A.size+off)++(a.eval M).cells.toList++cells.drop (i*A.size+off+ti.size),⟨?_,.inr ⟨L,cap,_,?_,Nat.zero_le _,setRow_heap w L I _ N _ q,?_,J,?_,?_⟩⟩,fun j hj=>?_⟩
 ·simp only[List.length_append,List.length_take,List.length_drop,h2,f,a7,List.length_set];omega
 ·rw[List.length_set]
 ·rw[List.length_set];exact B
 ·simp only[List.size_toArray,List.length_append,List.length_take,List.length_drop,Array.length_toList,h2,f];omega
 ·rw[List.length_set,←C];have hq:xs.length*A.size≤I.toList.length:=by simp only[Array.length_toList];omega
  have:=uj (l:=I.toList) (vs:=(a.eval M).cells.toList) (p:=i*A.size+off) (m:=ti.size) (n:=xs.length*A.size) (by rw[h2,f]) (by omega) hq;simpa using this
 ·rw[List.length_set]at hj;by_cases e:i=j
  ·subst e;simp only[List.getElem_set_self];refine ah.mono (hF _) (fun _ _ h=>h) (a3 _ ?_).1;simp only[cellsOf];obtain⟨u',p1,_,_,x,p2,p3⟩:=m.ob id _ a1;rw[Y]at p1;cases p1;have ac:x=cells:=by
    rcases p2.2 with⟨e,_⟩ | ⟨g2,b2,b3,e,_,e2,_,_,_,e3⟩
    ·cases e
    ·simp only[Value.slice.injEq,Option.some.injEq,Addr.mk.injEq,and_true,true_and]at e;obtain⟨rfl,_⟩:=e;rw[q]at e2;simp only[Option.some.injEq,Obj.cells.injEq,and_true]at e2;rw[←e3,←C,e2]
   subst ac;have ad:VL (Fr (own φ h) Bw w) ρ (flat false A (xs.getD i A.zero)) (fun k u=>x[i*A.size+k]? = some u):=vS D (p3 i D);have:=I3 (b:=i*A.size) (off:=off) (by rw[eQ];omega) (by rw[eQ,f];omega) h2 ad h1;rw[f]at this;exact this
  ·rw[List.getElem_set_ne e];refine ah.mono (hF _) (fun _ _ h=>h) (ah.gw (fun k v hk hv=>?_) (r2 j hj));have b5:j*A.size+A.size≤xs.length*A.size:=by rw[←Nat.succ_mul];exact Nat.mul_le_mul_right _ hj
   rw[iz (by omega) (by rw[h2,f])]
   ·exact hv
   ·rcases Nat.lt_or_gt_of_ne e with e' | e'
    ·have:i*A.size+A.size≤j*A.size:=by rw[←Nat.succ_mul];exact Nat.mul_le_mul_right _ e'
     omega
    ·have:j*A.size+A.size≤i*A.size:=by rw[←Nat.succ_mul];exact Nat.mul_le_mul_right _ e'
     omega
end
end Go.Tv
