import Derived.Test.YtobbjfkfmdiklaaGreatDoorTvF
import Derived.Laws.OwnMore
namespace Go.Tv
open Go Go.RowKit
def wr(j:List ag)(p:Nat)(new:List ag):List ag:=j.take p++new++j.drop (p+new.length)
theorem Fi{j new:List ag}{p:Nat}(h:p+new.length≤j.length):(wr j p new).length=j.length:=by
 simp only[wr,List.length_append,List.length_take,List.length_drop];omega
theorem EE{F:Bool→Addr→Value→Prop}{ρ:Nat→QW}{q new:List ag}{us z:QY}{p:Nat}(hp:p+new.length≤q.length)(B:us.length=q.length)(C:z.length=new.length)
  (h1:VL F ρ q (fun k u=>us[k]? = some u)) (h2:VL F ρ new (fun k u=>z[k]? = some u)) :
  VL F ρ (wr q p new) (fun k u=>(us.take p++z++us.drop (p+new.length))[k]? = some u):=by
 refine VL.mk fun k x hk=>?_
 unfold wr at hk;have D:(q.take p++new).length=p+new.length:=by simp only[List.length_append,List.length_take];omega
 have E:(us.take p++z).length=p+new.length:=by simp only[List.length_append,List.length_take];omega
 have I:(q.take p).length=p:=by simp only[List.length_take];omega
 have J:(us.take p).length=p:=by simp only[List.length_take];omega
 rcases Nat.lt_or_ge k (p+new.length)with L | M
 ·rw[List.getElem?_append_left (by omega)]at hk;rw[List.getElem?_append_left (by omega)];rcases Nat.lt_or_ge k p with j | A
  ·rw[List.getElem?_append_left (by omega),List.getElem?_take,if_pos j]at hk;rw[List.getElem?_append_left (by omega),List.getElem?_take,if_pos j];exact VL.get h1 hk
  ·rw[List.getElem?_append_right (by omega),I]at hk;rw[List.getElem?_append_right (by omega),J];exact VL.get h2 hk
 ·rw[List.getElem?_append_right (by omega),D,List.getElem?_drop]at hk;rw[List.getElem?_append_right (by omega),E,List.getElem?_drop];exact VL.get h1 hk
theorem Dy{P:Program}{Bw:Nat→Prop}{w0:cC P}{w:World}{ρ:Nat→QW}{φ:Nat→Nat→Prop}{h:Nat→Qz}(m:Mem Bw w0 ρ φ h w){T:Ty}{x:ag}{y:T.den}{u:gX}(hd:Fb T h x=some (y,u)):
  Mem Bw w0 ρ φ (apply u h) w∧(∀β a v,Fr (own φ h) Bw w β a v→Fr (own φ (apply u h)) Bw w β a v) ∧
  ∀g:Nat→Value→Prop,VL (Fr (own φ h) Bw w) ρ (cellsOf x) g→ai (Fr (own φ (apply u h)) Bw w false) T y g∧T.size=(cellsOf x).length:=by
 unfold Fb at hd;split at hd
 ·rename_i j D h1;split at hd
  ·rename_i E h2;cases hd;obtain⟨p,q,I,z⟩:=o8 m h1;refine⟨p,q,fun g A=>?_⟩;obtain⟨B,C,J⟩:=cQ h2 (z g A);refine⟨B,?_⟩;have:(j.drop T.size).length=0:=by rw[←C];rfl
   simp only[List.length_drop]at this;omega
  ·cases hd
 ·cases hd
theorem m5{P:Program}{Bw:Nat→Prop}{w0:cC P}{w:World}{ρ:Nat→QW}{φ:Nat→Nat→Prop}{h:Nat→Qz}(m:Mem Bw w0 ρ φ h w){T:Ty}{x:ag}{y:T.den}{u:gX}(hd:Gm T h x=some (y,u)):
  Mem Bw w0 ρ φ (apply u h) w∧(∀β a v,Fr (own φ h) Bw w β a v→Fr (own φ (apply u h)) Bw w β a v) ∧
  ∀g:Nat→Value→Prop,VL (Fr (own φ h) Bw w) ρ (cellsOf x) g→ai (Fr (own φ (apply u h)) Bw w false) T y g∧T.size=(cellsOf x).length:=by
 unfold Gm at hd;split at hd
 ·rename_i A id i sz off;split at hd
  ·rename_i hz;split at hd
   ·rename_i cs hi;split at hd
    ·rename_i y' h2;cases hd;obtain⟨m',O⟩:=m.less (h':=bF h id none) (fun j o J=>by
      by_cases e:j=id
      ·subst e;rw[aB]at J;cases J
      ·rwa [aR _ _ e]at J)
     refine⟨m',O,fun g I=>⟨?_,rfl⟩⟩;simp only[cellsOf,VL,V]at I;obtain⟨⟨u,X,b,hb,rfl⟩,_⟩:=I;obtain⟨u0,N,q,te,cells,rfl,D,r1,r2,r3⟩:=m.ob id _ hi;have L:q=b:=by
      rw[N]at hb;rcases hb with hb | ⟨n,c,hb⟩
      ·simpa using hb
      ·cases hb
     subst L;rw[hz]at X;obtain⟨r4,_,_⟩:=cQ h2 r3;refine⟨⟨q,0,none⟩,X,ai.mono (O false) (fun k v hk=>?_) r4⟩;have hk:cells[k]? = some v:=hk;rw[ck];refine⟨fun⟨z,Y,C,p2,p3⟩=>?_,fun _ M=>m.ow q ⟨id,_,hi,rfl,D⟩ (m.bw _ M),?_⟩
     ·have C:bF h id none z=some Y:=C;have E:z≠id:=fun e=>by subst e;rw[aB]at C;cases C
      rw[aR _ _ E]at C;exact E (m.dj z id Y _ q C p2 hi rfl p3 D)
     ·rw[Nat.zero_add];exact World.fB (by rw[cell_of_row w q k cells te (0,0) r1];exact hk)
    ·cases hd
   ·rename_i k n xs cs hi;split at hd
    ·rename_i k' n' B;split at hd
     ·rename_i en;subst en;split at hd
      ·rename_i ek;subst ek;split at hd
       ·rename_i y' h2;cases hd;obtain⟨m',O⟩:=m.less (h':=bF h id none) (fun j o J=>by
         by_cases e:j=id
         ·subst e;rw[aB]at J;cases J
         ·rwa [aR _ _ e]at J)
        refine⟨m',O,fun g I=>⟨?_,rfl⟩⟩;simp only[cellsOf,VL,V]at I;obtain⟨⟨u,X,b,hb,rfl⟩,_⟩:=I;obtain⟨u0,N,q,te,cells,rfl,D,r1,r2,r3,r4⟩:=m.ob id _ hi;have L:q=b:=by
         rw[N]at hb;rcases hb with hb | ⟨n,c,hb⟩
         ·simpa using hb
         ·cases hb
        subst L;rw[hz]at X;obtain⟨r5,_,_⟩:=cQ h2 r4;have Z:∀k v,cells[k]? = some v→Fr (own φ (bF h id none)) Bw w false ⟨q,k,none⟩ v:=fun k v hk=>by
         refine⟨fun⟨z,Y,C,p2,p3⟩=>?_,fun _ M=>m.ow q ⟨id,_,hi,rfl,D⟩ (m.bw _ M),World.fB (by rw[cell_of_row w q k cells te (0,0) r1];exact hk)⟩;have C:bF h id none z=some Y:=C;have E:z≠id:=fun e=>by subst e;rw[aB]at C;cases C
         rw[aR _ _ E]at C;exact E (m.dj z id Y _ q C p2 hi rfl p3 D)
        refine⟨⟨q,0,none⟩,X,fun i hi=>?_,ai.mono (O false) (fun k v hk=>?_) r5⟩
        ·have:=Z i _ (r3 i hi);rw[show(⟨q,i,none⟩:Addr)=(⟨q,0,none⟩:Addr).add i by rw[ck,Nat.zero_add]]at this;exact this
        ·have hk:cells[n+k]? = some v:=hk;have:=Z (n+k) v hk;rw[show(⟨q,n+k,none⟩:Addr)=(⟨q,0,none⟩:Addr).add (n+k) by rw[ck,Nat.zero_add]]at this;exact this
       ·cases hd
      ·cases hd
     ·cases hd
    ·cases hd
   ·cases hd
  ·cases hd
 ·rename_i k n k' n' xs cs;split at hd
  ·split at hd
   ·rename_i en;subst en;split at hd
    ·rename_i ek;subst ek;cases hd;refine⟨m,fun _ _ _ h=>h,fun g I=>⟨fun i hi=>?_,by simp[cellsOf,Ty.size,xs.2]⟩⟩;simp only[cellsOf,List.append_nil]at I;obtain⟨u,N,q2⟩:=VL.get I (k:=i) (x:= .p false (.int k') xs.1[i]) (by rw[List.getElem?_map,List.getElem?_eq_getElem hi];rfl);rw[bQ q2]at N;exact N
    ·cases hd
   ·cases hd
  ·cases hd
 ·exact Dy m hd
section
variable{P:Program}{Bw:Nat→Prop}{w0:cC P}{ρ:Nat→QW}{φ:Nat→Nat→Prop}{h:Nat→Qz}{w:World}{new:Nat}
theorem wA(m:Mem Bw w0 ρ φ h w){o:Oper}{a:Act}{t:TypeId}{ti:TI}(ht:aN P t ti){N E:Operand}{id i sz off:Nat}(O:V (Fr (own φ h) Bw w) ρ (.adr id i sz off) (a.eval N))
  {y:ag} (hy:V (Fr (own φ h) Bw w) ρ y (a.eval E)) (hc:(cellsOf y).all ag.cell=true) (ho:o.op = .store t N E) {B:List ag} (hi:h id=some (.box B))
  (j:(cellsOf y).length=ti.size) (q:i*sz+off+ti.size≤B.length) :
  Good P o a w (aF Bw w0 ρ φ h w new .unk [(id,some (.box (wr B (i*sz+off) (cellsOf y))))]):=by
 obtain⟨u,I,g,X,cells,rfl,J,Y,Z,r3⟩:=m.ob id _ hi;simp only[V]at O;obtain⟨g',z,he⟩:=O;rw[I]at z;have L:g=g':=by
  rcases z with z | ⟨n,c,z⟩
  ·simpa using z
  ·cases z
 subst L;obtain⟨h1,h2,h3⟩:=fV hc hy;have C:=gG (P:=P) ht Y (v:=a.eval E) (p:=i*sz+off) (by rw[h2,j]) (by rw[Z];exact q) h3;refine Good.jN (w':=_) (by simp[execOp,ho,Instr.storeAt,he,Instr.sureAddr,C];rfl) ?_;refine dW m (some id) id (.box (wr B (i*sz+off) (cellsOf y))) (.pointer (some ⟨g,0,none⟩)) (φ id) (some g) (aZ w g _) (fun k e=>⟨id,_,rfl,hi,rfl,by cases e;assumption⟩) (.inr ⟨rfl,I⟩)
  (fun _ k hk=>Nat.lt_of_lt_of_le (m.lt id _ k hi rfl hk) (aZ w g _).size) (fun _ k hk=> .inr ⟨id,_,rfl,hi,rfl,hk⟩) (fun F' D M x=>?_) (by rw[bm];rfl) (fun e=>by rw[I]at e;cases e) (fun F' D M x a1=>by simp only[V])
 refine⟨g,X,_,rfl,J,setRow_heap w g cells _ X _ Y,?_,?_⟩
 ·simp only[List.size_toArray,List.length_append,List.length_take,List.length_drop,Array.length_toList,h2,j,wr];omega
 ·have h4:VL F' D B (fun k u=>cells.toList[k]? = some u):=VL.mono M x (fun k u hk=>by simpa using hk) r3;have:=EE (p:=i*sz+off) (by rw[j];exact q) (by simpa using Z) h2 h4 (VL.mono M x (fun _ _ h=>h) h1);rw[j]at this;exact VL.mono (fun _ _ _ h=>h) (fun _ _ h=>h) (fun k u hk=>by simpa using hk) this
theorem qh{t:TypeId}{ti:TI}(ht:aN P t ti)(D:ti.size=1){g p:Nat}{j:QU}{C:TypeId}{mk:Nat×Nat}(z:w.heap[g]? = some (.cells j C mk))(hp:p<j.size)(A:mk=(0,0)∨mk=(j.size,j.size+1))
  {v:Value} (E:v.cells = #[v]) (h1:v.oneCell'=true):(storeVar t ⟨g,p,none⟩ v).run P w = .ok () (w.setRow g (j.setIfInBounds p v)):=by
 have q:w.cell? ⟨g,p,none⟩=some j[p]:=by simp[World.cell?,z,hp]
 have u:w.frozen? ⟨g,p,none⟩=false:=by rcases A with e | e <;> subst e <;> simp[World.frozen?,z] <;> omega
 unfold storeVar;rw[Sem.run_bind,run_sizeOf ht];simp only[Result.andThen_ok];rw[E,D];have B:(store ((⟨g,p,none⟩:Addr).add 0) v).run P w = .ok () (w.setRow g (j.setIfInBounds p v)):=by
  have x:(⟨g,p,none⟩:Addr).add 0=⟨g,p,none⟩:=by unfold Addr.add;split <;> simp_all
  rw[x,run_store P w _ v _ h1,q];simp[u,setCell_eq_setRow w g p j C mk v z]
 simp[storeCells,Sem.run_bind,B]
theorem tj(m:Mem Bw w0 ρ φ h w){o:Oper}{a:Act}{t:TypeId}{ti:TI}(ht:aN P t ti)(D:ti.size=1){E I:Operand}{id i:Nat}(hx:V (Fr (own φ h) Bw w) ρ (.adr id i 1 0) (a.eval E))
  {β:Bool} {v:Int} (hy:V (Fr (own φ h) Bw w) ρ (.p β (.int .u8) v) (a.eval I)) (ho:o.op = .store t E I) {C:TypeId} {xs:QK} (hi:h id=some (.bytes C xs)) (J:i<xs.length) :
  Good P o a w (aF Bw w0 ρ φ h w new .unk [(id,some (.bytes C (xs.set i v)))]):=by
 obtain⟨u,L,q2⟩:=m.ob id _ hi;simp only[V]at hx;obtain⟨g,x,he⟩:=hx;have z:=bQ hy;rcases q2 with⟨rfl,hn⟩ | ⟨q,cap,M,mk,rfl,N,r1,r2,r3,r5,r6⟩
 ·subst hn;simp at J
 rw[L]at x;have O:q=g:=by
  rcases x with x | ⟨n,c,x⟩
  ·cases x
  ·simp only[Option.some.injEq,Value.slice.injEq,Addr.mk.injEq]at x;exact x.1.1
 subst O;have B:=qh (P:=P) ht D r1 (v:=a.eval I) (p:=i) (by omega) r2 (by rw[z];rfl) (by rw[z];rfl);have X:a.eval E = .pointer (some ⟨q,i,none⟩):=by rw[he];simp
 refine Good.jN (w':=_) (by simp[execOp,ho,Instr.storeAt,X,Instr.sureAddr,B];rfl) ?_;refine dW m (some id) id (.bytes C (xs.set i v)) (.slice (some ⟨q,0,none⟩) xs.length cap) (φ id) (some q) (aZ w q _) (fun k e=>⟨id,_,rfl,hi,rfl,by cases e;assumption⟩) (.inr ⟨rfl,L⟩)
  (fun _ k hk=>Nat.lt_of_lt_of_le (m.lt id _ k hi rfl hk) (aZ w q _).size) (fun _ k hk=> .inr ⟨id,_,rfl,hi,rfl,hk⟩) (fun F' Y hF Z=>?_) (by rw[bm];rfl) (fun e=>by rw[L]at e;cases e) (fun F' Y hF Z a1=>by simp only[V])
 refine .inr ⟨q,cap,_,mk,by rw[List.length_set],N,setRow_heap w q M _ C _ r1,?_,by rw[List.length_set];exact r3,by simpa using r5,fun j hj=>?_⟩
 ·rcases r2 with e | e
  ·exact .inl e
  ·exact .inr (by rw[e];simp)
 ·rw[List.length_set]at hj;by_cases e:i=j
  ·subst e;rw[z];simp only[List.getElem_set_self];rw[Array.getElem?_setIfInBounds_self_of_lt (by omega)]
  ·rw[List.getElem_set_ne e,Array.getElem?_setIfInBounds_ne e];exact r6 j hj
theorem J1{F:Bool→Addr→Value→Prop}{ρ:Nat→QW}{cells vs:QY}{j new:List ag}{b off:Nat}(hb:b+j.length≤cells.length)(q:off+new.length≤j.length)(A:vs.length=new.length)
  (h1:VL F ρ j (fun k u=>cells[b+k]? = some u)) (h2:VL F ρ new (fun k u=>vs[k]? = some u)) :
  VL F ρ (wr j off new) (fun k u=>(cells.take (b+off)++vs++cells.drop (b+off+new.length))[b+k]? = some u):=by
 have L:VL F ρ j (fun k u=>((cells.drop b).take j.length)[k]? = some u):=VL.mk fun k x hk=>by obtain⟨u,M,N⟩:=VL.get h1 hk;have B:k<j.length:=(List.getElem?_eq_some_iff.1 hk).1;exact⟨u,by rw[List.getElem?_take,if_pos B,List.getElem?_drop];exact M,N⟩
 have O:=EE (p:=off) (us:=(cells.drop b).take j.length) q (by simp only[List.length_take,List.length_drop];omega) A L h2;refine VL.mono (fun _ _ _ h=>h) (fun _ _ h=>h) (fun k u hk=>?_) O;have C:(((cells.drop b).take j.length).take off++vs).length=off+new.length:=by simp only[List.length_append,List.length_take,List.length_drop];omega
 have D:(cells.take (b+off)++vs).length=b+off+new.length:=by simp only[List.length_append,List.length_take];omega
 have E:(((cells.drop b).take j.length).take off).length=off:=by simp only[List.length_take,List.length_drop];omega
 have I:(cells.take (b+off)).length=b+off:=by simp only[List.length_take];omega
 rcases Nat.lt_or_ge k (off+new.length)with V | X
 ·rw[List.getElem?_append_left (by omega)]at hk;rw[List.getElem?_append_left (by omega)];rcases Nat.lt_or_ge k off with z | J
  ·rw[List.getElem?_append_left (by omega),List.getElem?_take,if_pos z,List.getElem?_take,if_pos (by omega),List.getElem?_drop]at hk;rw[List.getElem?_append_left (by omega),List.getElem?_take,if_pos (by omega)];exact hk
  ·rw[List.getElem?_append_right (by omega),E]at hk;rw[List.getElem?_append_right (by omega),I,show b+k - (b+off)=k - off by omega];exact hk
 ·rw[List.getElem?_append_right (by omega),C,List.getElem?_drop,List.getElem?_take]at hk;split at hk
  ·rw[List.getElem?_drop]at hk;rw[List.getElem?_append_right (by omega),D,List.getElem?_drop,←hk];congr 1;omega
  ·cases hk
theorem iC {cells vs:QY} {p n k:Nat} (hp:p+n≤cells.length) (hn:vs.length=n) (hk:k<p∨p+n≤k):(cells.take p++vs++cells.drop (p+n))[k]? = cells[k]? :=by
 have j:(cells.take p).length=p:=by simp only[List.length_take];omega
 have q:(cells.take p++vs).length=p+n:=by simp only[List.length_append,j,hn]
 rcases hk with hk | hk
 ·rw[List.getElem?_append_left (by omega),List.getElem?_append_left (by omega),List.getElem?_take,if_pos hk]
 ·rw[List.getElem?_append_right (by omega),q,List.getElem?_drop];congr 1;omega
theorem ub{α:Type}{l vs:List α}{p m n:Nat}(h1:vs.length=m)(h2:p+m≤n)(q:n≤l.length):
  (l.take p++vs++l.drop (p+m)).take n=(l.take n).take p++vs++(l.take n).drop (p+m):=by
 have j:(l.take p).length=p:=by simp only[List.length_take];omega
 rw[List.append_assoc,List.append_assoc,List.take_append,List.take_append,j,h1,List.take_of_length_le (by omega:(l.take p).length≤n),List.take_of_length_le (by omega:vs.length≤n - p),
  List.take_take,Nat.min_eq_left (by omega),List.drop_take,Nat.sub_sub]
theorem ai.gA{F:Addr→Value→Prop}:∀ {T:Ty} {x:T.den} {g g':Nat→Value→Prop},(∀k v,k<T.size→g k v→g' k v)→ai F T x g→ai F T x g'
 | .int _,_,_,_,j,h=>j _ _ (by simp[Ty.size]) h
 | .bool,_,_,_,j,h=>j _ _ (by simp[Ty.size]) h
 | .str,_,_,_,j,h=>j _ _ (by simp[Ty.size]) h
 | .flt,_,_,_,j,⟨m,h,e⟩=>⟨m,j _ _ (by simp[Ty.size]) h,e⟩
 | .unit,_,_,_,_,_=>trivial
 | .prod a b,x,_,_,j,h=>⟨ai.gA (T:=a) (fun k v hk=>j k v (by simp only[Ty.size];omega)) h.1,ai.gA (T:=b) (fun k v hk=>j _ v (by simp only[Ty.size];omega)) h.2⟩
 | .slice a,xs,_,_,j,⟨ad,len,cap,q,hl,h⟩=>⟨ad,len,cap,j _ _ (by simp[Ty.size]) q,hl,h⟩
 | .ptr a,none,_,_,j,h=>j _ _ (by simp[Ty.size]) h
 | .ptr a,some y,_,_,j,⟨b,q,z⟩=>⟨b,j _ _ (by simp[Ty.size]) q,z⟩
 | .tree B C,t,_,_,j,h=>gF.mono (fun _ _ h=>h) (fun k v hk=>j k v (by simpa [Ty.size]using hk)) h
 | .arr _ _,x,_,_,j,h=>fun i hi=>j _ _ (by rw[x.2]at hi;exact hi) (h i hi)
 | .mapi _ _,_,_,_,j,⟨r,q,h⟩=>⟨r,j _ _ (by simp[Ty.size]) q,h⟩
def A7(A:Ty)(h:Nat→Qz)(j:List A.den)(i off:Nat)(y:ag):Option (A.den×gX) :=
 Gm A h (.agg (wr (flat false A (j.getD i A.zero)) off (cellsOf y)))
theorem wE(m:Mem Bw w0 ρ φ h w){o:Oper}{a:Act}{t:TypeId}{ti:TI}(ht:aN P t ti){xo N:Operand}{id i off:Nat}{O:TypeId}{A:Ty}(hx:V (Fr (own φ h) Bw w) ρ (.adr id i A.size off) (a.eval xo))
  {y:ag} (hy:V (Fr (own φ h) Bw w) ρ y (a.eval N)) (hc:(cellsOf y).all ag.cell=true) (ho:o.op = .store t xo N) {xs:List A.den} {z:A.den} {us:gX}
  (hz:A7 A h xs i off y=some (z,us)) (a1:h id=some (.arr O A xs)) (hi:apply us h id=some (.arr O A xs)) (q:(cellsOf y).length=ti.size) (ad:off+ti.size≤A.size) (E:i<xs.length) :
  Good P o a w (aF Bw w0 ρ φ h w new .unk (us++[(id,some (.arr O A (xs.set i z)))])):=by
 obtain⟨m',a2,a3⟩:=m5 m hz;obtain⟨u,Z,a4,hA,cells,r1,r2⟩:=m'.ob id _ hi;have a5:=fV hc hy;simp only[V]at hx;obtain⟨g,I,he⟩:=hx;obtain⟨h1,h2,h3⟩:=a5;rcases r1.2 with⟨rfl,hn⟩ | ⟨M,cap,J,rfl,_,x,C,L,X,D⟩
 ·omega
 rw[Z]at I;have a6:M=g:=by
  rcases I with I | ⟨n,c,I⟩
  ·cases I
  ·simp only[Option.some.injEq,Value.slice.injEq,Addr.mk.injEq]at I;exact I.1.1
 subst a6;have hcl:cells.length=xs.length*A.size:=r1.1;have b3:i*A.size+A.size≤xs.length*A.size:=by rw[←Nat.succ_mul];exact Nat.mul_le_mul_right _ E
 have a7:xs.length*A.size≤cap*A.size:=Nat.mul_le_mul_right _ C;have Y:=gG (P:=P) ht x (v:=a.eval N) (p:=i*A.size+off) (by rw[h2,q]) (by rw[X];omega) h3;refine Good.jN (w':=_) (by simp[execOp,ho,Instr.storeAt,he,Instr.sureAddr,Y];rfl) ?_;refine aF.after rfl a2 ?_;refine cT m' (some id) id (.arr O A (xs.set i z)) (.slice (some ⟨M,0,none⟩) xs.length cap) (some M) (aZ w M _) (fun k e=>⟨id,_,rfl,hi,rfl,a4 _ (by simpa [dw]using e)⟩) (.inr ⟨rfl,Z⟩)
  (fun _ k hk=> .inr (by simpa [dw]using hk)) (fun F' a8 hF a9=>?_) (by rw[bm];rfl) (fun e=>by rw[Z]at e;cases e) (fun F' a8 hF a9 ax=>by simp only[V])
 refine⟨fun _ h=>h,hA,cells.take (i*A.size+off)++(a.eval N).cells.toList++cells.drop (i*A.size+off+ti.size),⟨?_,.inr ⟨M,cap,_,?_,Nat.zero_le _,setRow_heap w M J _ O _ x,?_,L,?_,?_⟩⟩,fun j hj=>?_⟩
 ·simp only[List.length_append,List.length_take,List.length_drop,h2,q,hcl,List.length_set];omega
 ·rw[List.length_set]
 ·rw[List.length_set];exact C
 ·simp only[List.size_toArray,List.length_append,List.length_take,List.length_drop,Array.length_toList,h2,q];omega
 ·rw[List.length_set,←D];have hq:xs.length*A.size≤J.toList.length:=by simp only[Array.length_toList];omega
  have:=ub (l:=J.toList) (vs:=(a.eval N).cells.toList) (p:=i*A.size+off) (m:=ti.size) (n:=xs.length*A.size) (by rw[h2,q]) (by omega) hq;simpa using this
 ·rw[List.length_set]at hj;by_cases e:i=j
  ·subst e;simp only[List.getElem_set_self];refine ai.mono (hF _) (fun _ _ h=>h) (a3 _ ?_).1;simp only[cellsOf];obtain⟨u',p1,_,_,B,p2,p3⟩:=m.ob id _ a1;rw[Z]at p1;cases p1;have aa:B=cells:=by
    rcases p2.2 with⟨e,_⟩ | ⟨g2,b1,b2,e,_,e2,_,_,_,e3⟩
    ·cases e
    ·simp only[Value.slice.injEq,Option.some.injEq,Addr.mk.injEq,and_true,true_and]at e;obtain⟨rfl,_⟩:=e;rw[x]at e2;simp only[Option.some.injEq,Obj.cells.injEq,and_true]at e2;rw[←e3,←D,e2]
   subst aa;have ac:VL (Fr (own φ h) Bw w) ρ (flat false A (xs.getD i A.zero)) (fun k u=>B[i*A.size+k]? = some u):=xh E (p3 i E);have:=J1 (b:=i*A.size) (off:=off) (by rw[eP];omega) (by rw[eP,q];omega) h2 ac h1;rw[q]at this;exact this
  ·rw[List.getElem_set_ne e];refine ai.mono (hF _) (fun _ _ h=>h) (ai.gA (fun k v hk hv=>?_) (r2 j hj));have b4:j*A.size+A.size≤xs.length*A.size:=by rw[←Nat.succ_mul];exact Nat.mul_le_mul_right _ hj
   rw[iC (by omega) (by rw[h2,q])]
   ·exact hv
   ·rcases Nat.lt_or_gt_of_ne e with e' | e'
    ·have:i*A.size+A.size≤j*A.size:=by rw[←Nat.succ_mul];exact Nat.mul_le_mul_right _ e'
     omega
    ·have:j*A.size+A.size≤i*A.size:=by rw[←Nat.succ_mul];exact Nat.mul_le_mul_right _ e'
     omega
end
end Go.Tv
