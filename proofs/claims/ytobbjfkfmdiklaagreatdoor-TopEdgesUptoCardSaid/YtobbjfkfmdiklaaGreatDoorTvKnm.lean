import Derived.Test.YtobbjfkfmdiklaaGreatDoorTvL
import Derived.Test.YtobbjfkfmdiklaaGreatDoorTvKlm
namespace Go.Tv
open Go Go.RowKit
section
variable{P:Program}{tb:bT}{Bw:Nat→Prop}{w0:cC P}{ρ:Nat→QW}{φ:Nat→Nat→Prop}{h:Nat→Qz}{w:World}{new:Nat}
def yS:Bool→Nat→ag
 | false,j=> .mp j
 | true,j=> .sl j
theorem E1{F:Bool→Addr→Value→Prop}{f:Bool}{j:Nat}{v:Value}:V F ρ (yS f j) v↔ρ j=some v∧BH f v:=by
 cases f <;> simp only[yS,V,BH]
theorem BH.one{f:Bool}{v:Value}(h:BH f v):v.oneCell'=true:=by
 cases f with
 | false=>obtain⟨_,rfl⟩:=h;rfl
 | true=>obtain⟨_,_,_,rfl⟩:=h;rfl
theorem E8(m:Mem Bw w0 ρ φ h w){id:Nat}{e x:TypeId}{j:List Nd}{z:Option (Nat×Bool×Nat)}(hi:h id=some (.nds e x j z)){v:Value}(p:V (Fr (own φ h) Bw w) ρ (.sl id) v):
  (v = .slice none 0 0∧j.length=0)∨∃g cap,v = .slice (some ⟨g,0,none⟩) j.length cap∧j.length≤cap:=by
 obtain⟨u,q,_,_,cells,A,_⟩:=m.ob id _ hi;simp only[V]at p;rw[p.1]at q;cases q;rcases A.2 with⟨rfl,hn⟩ | ⟨g,cap,B,rfl,_,_,hn,_⟩
 ·exact .inl ⟨rfl,hn⟩
 ·exact .inr ⟨g,cap,rfl,hn⟩
theorem Cm(m:Mem Bw w0 ρ φ h w){o:Oper}{a:Act}{t:TypeId}{ti:TI}(ht:aN P t ti){e:TypeId}(hk:ti.k = .sl e){q:Operand}{id:Nat}{u x:TypeId}{j:List Nd}{hole:Option (Nat×Bool×Nat)}(z:V (Fr (own φ h) Bw w) ρ (.sl id) (a.eval q))
  (hb:h id=some (.nds u x j hole)) (A:o.op = .call { callee:= .builtin .len,args:= #[q],argTypes:= #[t] }):Good P o a w (aF Bw w0 ρ φ h w new (.p false (.int .i64) (j.length:Int)) []):=by
 have hu:=aY ht hk;refine Good.aG (v:= .int .i64 j.length) (w':=w) ?_ (aF.pure m (dF _ _ _));simp only[execOp,A,resolve,invoke,builtin,Sem.run_bind,Sem.run_pure,Result.andThen_ok,List.map_toArray,List.map_cons,List.map_nil];rcases E8 m hb z with⟨e,hn⟩ | ⟨g,cap,e,_⟩
 ·rw[e,hn];simp[Builtin.len_,run_underlying hu,goInt]
 ·rw[e];simp[Builtin.len_,run_underlying hu,goInt]
theorem xu(m:Mem Bw w0 ρ φ h w){o:Oper}{a:Act}{t e:TypeId}{ti j:TI}(ht:aN P t ti)(hk:ti.k = .sl e)(q:aN P e j)(u:j.size=2){z io:Operand}{id:Nat}{D E:TypeId}{A:List Nd}{hole:Option (Nat×Bool×Nat)}(x:V (Fr (own φ h) Bw w) ρ (.sl id) (a.eval z))
  (hb:h id=some (.nds D E A hole)) {β:Bool} {k:IntKind} {i:Int} (hi:V (Fr (own φ h) Bw w) ρ (.p β (.int k) i) (a.eval io)) (I:o.op = .indexAddr t z io) (J:0≤i) (hn:i<A.length) :
  Good P o a w (aF Bw w0 ρ φ h w new (.adr id i.toNat 2 0) []):=by
 have hu:=aY ht hk;have L:=bQ hi;rcases E8 m hb x with⟨_,h'⟩ | ⟨g,cap,B,C⟩
 ·omega
 simp only[V]at x;refine Good.aG (v:= .pointer (some ((⟨g,0,none⟩:Addr).add (i.toNat*j.size)))) (w':=w) ?_ (aF.pure m ?_)
 ·simp[execOp,I,Instr.indexAt,asIntOf,L,B,run_underlying hu,run_sizeOf q,J,hn]
 ·simp only[V];exact⟨g,.inr ⟨_,_,by rw[x.1,B]⟩,by rw[ck,u];simp⟩
theorem yO(m:Mem Bw w0 ρ φ h w){id i off:Nat}{e L:TypeId}{z:List Nd}{hole:Option (Nat×Bool×Nat)}(hb:h id=some (.nds e L z hole)){v:Value}(M:V (Fr (own φ h) Bw w) ρ (.adr id i 2 off) v)(hi:i<z.length):
  ∃g cap q,v = .pointer (some ⟨g,i*2+off,none⟩)∧ρ id=some (.slice (some ⟨g,0,none⟩) z.length cap)∧φ id g∧w.heap[g]? = some (.cells q e (0,0))∧z.length≤cap∧cap≤maxLen∧q.size=cap*2 ∧
   (∀i f (h:i<z.length),∃v,(q.toList.take (z.length*2))[i*2+f.toNat]? = some v∧BH f v∧(m7 hole i f→zi (φ id) w L v f z[i]∧∀k,dw v=some k→k≠g)∧∀j,hole=some (i,f,j)→ρ j=some v) ∧
   ∀i f j g N O b,¬(i=j∧f=g)→m7 hole i f→m7 hole j g→(q.toList.take (z.length*2))[i*2+f.toNat]? = some N→(q.toList.take (z.length*2))[j*2+g.toNat]? = some O→dw N=some b→dw O≠some b:=by
 obtain⟨u,X,Z,_,cells,h3,h4,h5⟩:=m.ob id _ hb;simp only[V]at M;obtain⟨g,A,he⟩:=M;rcases h3.2 with⟨rfl,hn⟩ | ⟨I,cap,q,rfl,_,B,C,D,E,x⟩
 ·omega
 have J:I=g:=by
  rw[X]at A;rcases A with A | ⟨n,c,A⟩
  ·cases A
  ·simp only[Option.some.injEq,Value.slice.injEq,Addr.mk.injEq]at A;exact A.1.1
 subst J;refine⟨I,cap,q,he,X,Z I rfl,B,C,D,E,?_,?_⟩
 ·rw[x];intro r f hr;obtain⟨v,c1,c2,Y,c4⟩:=h4 r f hr;exact⟨v,c1,c2,fun s=>⟨(Y s).1,fun k hk e=>(Y s).2 k hk (by rw[e];rfl)⟩,c4⟩
 ·rw[x];exact h5
theorem zE(m:Mem Bw w0 ρ φ h w){o:Oper}{a:Act}{t:TypeId}{ti:TI}(ht:aN P t ti)(hk:ti.k.agg=false){C:Operand}{id i k j:Nat}{f:Bool}(E:V (Fr (own φ h) Bw w) ρ (.adr id i 2 f.toNat) (a.eval C))(I:o.op = .load t C)
  {e J:TypeId} {L:List Nd} (hb:h id=some (.nds e J L (some (k,f,j)))) (z:i=k) :
  Good P o a w (aF Bw w0 ρ φ h w new (yS f j) []):=by
 subst z;obtain⟨u,_,_,A,_⟩:=m.ob id _ hb;have hi:=A i f j rfl;obtain⟨g,cap,M,N,Z,_,p,B,_,D,O,_⟩:=yO m hb E hi;obtain⟨v,x,X,_,Y⟩:=O i f hi;have q:w.cell? ⟨g,i*2+f.toNat,none⟩=some v:=by
  rw[List.getElem?_take]at x;split at x
  ·simp only[World.cell?,p];rw[←Array.getElem?_toList];exact x
  ·cases x
 refine Good.aG (v:=v) (w':=w) ?_ (aF.pure m (E1.2 ⟨Y j rfl,X⟩));simp only[execOp,I,Instr.loadAt,N,Instr.sureAddr,Sem.run_bind,Sem.run_pure,Result.andThen_ok];unfold loadVar;rw[Sem.run_bind,kY ht];simp only[Result.andThen_ok,hk];rw[if_neg (by simp),run_load,q];rfl
theorem qg(m:Mem Bw w0 ρ φ h w){o:Oper}{a:Act}{t:TypeId}{ti:TI}(ht:aN P t ti)(O:ti.size=1){xo yo:Operand}{id i r:Nat}{f:Bool}(hx:V (Fr (own φ h) Bw w) ρ (.adr id i 2 f.toNat) (a.eval xo))
  (hy:V (Fr (own φ h) Bw w) ρ (yS f r) (a.eval yo)) (ho:o.op = .store t xo yo) {e e2:TypeId} {z:List Nd} {hole:Option (Nat×Bool×Nat)} (hi:h id=some (.nds e e2 z hole)) (a1:i<z.length)
  (hh:∀k g j,hole=some (k,g,j)→k=i∧g=f):Good P o a w (aF Bw w0 ρ φ h w new .unk [(id,some (.nds e e2 z (some (i,f,r))))]):=by
 obtain⟨hr,hv⟩:=E1.1 hy;generalize a5:a.eval yo=A at hr hv;have B:A.cells = #[A]:=fO hv.one;obtain⟨J,cap,u,he,q1,hs,C,X,Y,L,h4,h5⟩:=yO m hi hx a1;have aa:f.toNat<2:=by cases f <;> decide
 have M:=gG (P:=P) ht C (v:=A) (p:=i*2+f.toNat) (by rw[B,O];rfl) (by rw[L,O];omega) (fun c hc=>by
  rw[B]at hc;simp only[List.mem_singleton]at hc;rw[hc];exact hv.one)
 have D:(u.toList.take (i*2+f.toNat)++A.cells.toList++u.toList.drop (i*2+f.toNat+ti.size))=u.toList.set (i*2+f.toNat) A:=by rw[B,O,List.set_eq_take_append_cons_drop,if_pos (by simp only[Array.length_toList];omega)];simp
 rw[D]at M;have N:(u.toList.take (z.length*2)).length=z.length*2:=by simp only[List.length_take,Array.length_toList];omega
 refine Good.jN (w':=_) (by simp[execOp,ho,Instr.storeAt,he,Instr.sureAddr,a5];rw[M];rfl) ?_;refine dW m (some id) id (.nds e e2 z (some (i,f,r))) (.slice (some ⟨J,0,none⟩) z.length cap) (φ id) (some J) (aZ w J _) (fun k e=>⟨id,_,rfl,hi,rfl,by cases e;exact hs⟩) (.inr ⟨rfl,q1⟩)
  (fun _ k hk=>Nat.lt_of_lt_of_le (m.lt id _ k hi rfl hk) (aZ w J _).size) (fun _ k hk=> .inr ⟨id,_,rfl,hi,rfl,hk⟩) (fun F' a6 hF a2=>?_) (by rw[bm];rfl) (fun e=>by rw[q1]at e;cases e) (fun F' a6 hF a2 a9=>by simp only[V])
 have x:∀q g,m7 (some (i,f,r)) q g→m7 hole q g:=fun q g hq k g2 I e=>by obtain⟨rfl,rfl⟩:=hh k g2 I e;exact hq k g2 r rfl
 have E:∀q g,¬(q=i∧g=f)→((u.toList.take (z.length*2)).set (i*2+f.toNat) A)[q*2+g.toNat]? = (u.toList.take (z.length*2))[q*2+g.toNat]? :=fun q g hq=>by
  refine List.getElem?_set_ne fun e=>hq ?_
  cases f <;> cases g <;> simp at e ⊢ <;> omega
 refine⟨fun k e=>by cases e;exact hs,fun k g I e=>(by cases e;exact a1),(u.toList.take (z.length*2)).set (i*2+f.toNat) A,⟨by rw[List.length_set];exact N,.inr ⟨J,cap,(u.toList.set (i*2+f.toNat) A).toArray,rfl,Nat.zero_le _,setRow_heap w J u _ e _ C,X,Y,by simp only[List.size_toArray,List.length_set,Array.length_toList];exact L,?_⟩⟩,fun q g hq=>?_,fun q g q' g2 vj a7 b a8 s1 s2 e1 a3=>?_⟩
 ·show(u.toList.set (i*2+f.toNat) A).take (z.length*2)=_;rw[List.take_set]
 ·by_cases e:q=i∧g=f
  ·obtain⟨rfl,rfl⟩:=e;refine⟨A,by rw[List.getElem?_set_self (by rw[N];omega)],hv,fun Z=>absurd ⟨rfl,rfl⟩ (Z q g r rfl),fun I e=>?_⟩;cases e;exact a2 _ _ hr
  ·obtain⟨v,p1,p2,p3,_⟩:=h4 q g hq;refine⟨v,by rw[E q g e];exact p1,p2,fun Z=>?_,fun I e'=>by cases e';exact absurd ⟨rfl,rfl⟩ e⟩;obtain⟨b1,b2⟩:=p3 (x q g Z);have hin:∀k,dw v=some k→φ id k:=by cases g <;> exact b1.1
   have a4:∀k,dw v=some k→(w.setRow J (u.toList.set (i*2+f.toNat) A).toArray).heap[k]? = w.heap[k]? :=fun k hk =>
    (aZ w J _).block k (m.lt id _ k hi rfl (hin k hk)) (fun e'=>b2 k hk (Option.some.inj e'))
   refine⟨?_,fun k hk e=>b2 k hk (by cases e;rfl)⟩;cases g with
   | false=>exact⟨hin,b1.2.mono a4⟩
   | true=>exact⟨hin,fL a4 b1.2⟩
 ·have n1:¬(q=i∧g=f):=s1 i f r rfl;have n2:¬(q'=i∧g2=f):=s2 i f r rfl;rw[E q g n1]at e1;rw[E q' g2 n2]at a3;exact h5 q g q' g2 vj a7 b a8 (x q g s1) (x q' g2 s2) e1 a3
theorem Ha{z:QU}(h:z.toList.map kb=[.lit (.map none),.nils]):z = #[.map none,.slice none 0 0]:=by
 have:=gw (F:=fun _ _ _=>True) (ρ:=fun _=>none) z.toList;rw[h]at this;simp only[VL,V]at this;obtain⟨⟨u,j,p⟩,⟨v,q,x⟩,_⟩:=this;have hl:=congrArg List.length h;simp only[List.length_map,Array.length_toList,List.length_cons,List.length_nil]at hl;subst p x;refine Array.ext' (List.ext_getElem? fun i=>?_);match i with
 | 0=>exact j
 | 1=>exact q
 | i+2=>rw[List.getElem?_eq_none (by simp;omega),List.getElem?_eq_none (by simp)]
theorem zM(m:Mem Bw w0 ρ φ h w)(hn:ρ new=none){o:Oper}{a:Act}{t e J:TypeId}{ti L:TI}(ht:aN P t ti)(hk:ti.k = .sl e)(M:aN P e L)(hz:L.z=[.lit (.map none),.nils])(B:L.size=2)
  {lo co:Operand} (ho:o.op = .makeSlice t lo co) {β N:Bool} {kl kc:IntKind} {l c:Int} (hl:V (Fr (own φ h) Bw w) ρ (.p β (.int kl) l) (a.eval lo)) (hc:V (Fr (own φ h) Bw w) ρ (.p N (.int kc) c) (a.eval co))
  (h1:0≤l) (h2:l≤c) (h3:(L.bytes:Int)*c≤281474976710656) (h4:c≤9223372036854775807) :
  Good P o a w (aF Bw w0 ρ φ h w new (.sl new) [(new,some (.nds e J (List.replicate l.toNat Nd.z) none))]):=by
 obtain⟨i,z,hi,O,x,u,C,a3,a4⟩:=M.hi;have hu:=aY ht hk;have D:=run_make (P:=P) w t e i z hu hi O kl kc l c h1 h2 (by rw[u];exact h3) h4;refine Good.aG (v:=_) (w':=_) (by simp only[execOp,ho,bQ hl,bQ hc,Sem.run_bind,D,Result.andThen_ok];rfl) ?_;have hm:(madeCells z.cells (c.toNat*i.size)).size=c.toNat*i.size:=size_madeCells _ _;have A:i.size=2:=by rw[x,B]
 rw[hz]at C;have X:=Ha C;have q:∀j (f:Bool),j<l.toNat→((madeCells z.cells (c.toNat*i.size)).toList.take (l.toNat*2))[j*2+f.toNat]? = some (if f then .slice none 0 0 else .map none):=fun j f Y=>by
  have hf:f.toNat<2:=by cases f <;> decide
  rw[List.getElem?_take,if_pos (by omega)];have Z:j*2+f.toNat<c.toNat*i.size:=by rw[A];omega
  have E:(madeCells z.cells (c.toNat*i.size)).toList[j*2+f.toNat]? = some (z.cells[(j*2+f.toNat) % z.cells.size]!):=by simp[madeCells,Z]
  rw[E,X];have:(j*2+f.toNat) % 2=f.toNat:=by omega
  show some ((#[Value.map none,.slice none 0 0])[(j*2+f.toNat) % 2]!)=_;rw[this];cases f <;> rfl
 refine cT m none new (.nds e J (List.replicate l.toNat Nd.z) none) (.slice (some ⟨w.heap.size,0,none⟩) l.toNat c.toNat) none (World.grownBy_alloc w _ none) (fun k e=>by cases e) (.inl hn) (fun _ k hk=>?_) (fun F' a1 hF a2=>?_) (by rw[bn];rfl) (fun _=>rfl) (fun F' a1 hF a2 I=>?_)
 ·simp only[dw,Option.some.injEq]at hk;exact .inl (by omega)
 ·refine⟨fun _ h=>h,fun _ _ _ e=>(by cases e),(madeCells z.cells (c.toNat*i.size)).toList.take (l.toNat*2),⟨?_,.inr ⟨w.heap.size,c.toNat,madeCells z.cells (c.toNat*i.size),?_,Nat.zero_le _,heap_alloc_new w _,?_,?_,?_,?_⟩⟩,fun j f Y=>?_,fun r f r' f' vr a5 b _ _ _ E J b1=>?_⟩
  ·simp only[List.length_take,Array.length_toList,hm,List.length_replicate];rw[A];omega
  ·simp
  ·simp;omega
  ·unfold maxLen;omega
  ·rw[hm,A]
  ·simp
  ·simp only[List.length_replicate]at Y;refine⟨_,q j f Y,?_,fun _=>⟨?_,fun k hk=>?_⟩,fun id e=>by cases e⟩
   ·cases f
    ·exact⟨_,rfl⟩
    ·exact⟨_,_,_,rfl⟩
   ·simp only[List.getElem_replicate];cases f
    ·exact⟨fun k hk=>by simp[dw]at hk,rfl,rfl⟩
    ·exact⟨fun k hk=>by simp[dw]at hk,World.ownsRow_nil _ 0 J 1⟩
   ·cases f <;> simp[dw]at hk
  ·have hr:r<l.toNat:=by have:=(List.getElem?_eq_some_iff.1 E).1;simp only[List.length_take]at this;cases f <;> simp at this <;> omega
   rw[q r f hr]at E;cases E;cases f <;> simp[dw]at b1
 ·simp only[V];exact⟨I,_,_,_,rfl⟩
theorem CA(m:Mem Bw w0 ρ φ h w)(hn:ρ new=none){o:Oper}{a:Act}{t e:TypeId}{ti te:TI}(ht:aN P t ti)(hk:ti.k = .sl e)(a8:aN P e te)(a9:te.size=2)
  {xo yo:Operand} {id r:Nat} (Z:V (Fr (own φ h) Bw w) ρ (.sl id) (a.eval xo)) (hy:V (Fr (own φ h) Bw w) ρ (.sl r) (a.eval yo)) (ho:o.op = .call { callee:= .builtin .append,args:= #[xo,yo],argTypes:= #[t,t] })
  {X:TypeId} {p:List Nd} (hi:h id=some (.nds e X p none)) (hr:h r=some (.vrow 1 2 [.lit (.map none),.nils])) (hb:(p.length+1)*te.bytes≤140737488355328) (b9:p.length+1≤9223372036854775807) :
  Good P o a w (aF Bw w0 ρ φ h w new (.sl new) [(id,none),(new,some (.nds e X (p++[Nd.z]) none))]):=by
 obtain⟨i,z,ac,hz,x,C,bi,ax,bs⟩:=a8.hi;have hu:=aY ht hk;have L:i.size=2:=by rw[x,a9]
 obtain⟨v,q1,hs,_,cells,A,h4,h5⟩:=m.ob id _ hi;obtain⟨y,q2,g,t',arr,rfl,_,r1,r2,_,r4⟩:=m.ob r _ hr;simp only[V]at Z hy;obtain⟨Z,_⟩:=Z;obtain⟨hy,_⟩:=hy;rw[q1]at Z;rw[q2]at hy;have b3:=Option.some.inj Z;have b4:=Option.some.inj hy;obtain⟨aa,nn,cc,D⟩:∃aa nn cc,v = .slice aa nn cc:=by rcases A.2 with⟨e,_⟩ | ⟨g,cap,a1,e,_⟩ <;> exact⟨_,_,_,e⟩
 simp only[VL,V]at r4;obtain⟨⟨_,c0,rfl⟩,⟨_,c1,rfl⟩,_⟩:=r4;have M:∀j u,([.map none,.slice none 0 0]:QY)[j]? = some u→w.cell? ((⟨g,0,none⟩:Addr).add j)=some u:=fun j u hj=>by
  rw[ck,Nat.zero_add];simp only[World.cell?,r1];match j,hj with
  | 0,hj=>cases hj;exact c0
  | 1,hj=>cases hj;exact c1
 obtain⟨v',w',a2,h2,h3,h6⟩:=mT (P:=P) (t:=t) (ty:=o.type) hu ac hz (by rw[ax,x]) (by omega) (v:=v) (n:=p.length) (xs:=cells) (by rw[L];exact A) (ad:=⟨g,0,none⟩) (len:=1) (c:=1) (news:=[.map none,.slice none 0 0])
  (by rw[L];rfl) M (fun u hu=>by simp at hu;rcases hu with rfl | rfl <;> rfl) (by unfold maxLen;omega) (by rw[C];exact hb)
 rw[L]at h2;obtain⟨bv,bx,c2,B⟩:∃aa nn cc,v' = .slice aa nn cc:=by rcases h2.2 with⟨e,_⟩ | ⟨g,cap,a1,e,_⟩ <;> exact⟨_,_,_,e⟩
 have N:∀q f,m7 none q f:=fun _ _ _ _ _ e=>by cases e
 have O:∀k,φ id k→k<w.heap.size:=fun k hk=>m.lt id _ k hi rfl hk
 refine Good.aG (v:=v') (w':=w') ?_ ?_
 ·simp only[execOp,ho,resolve,invoke,builtin,Sem.run_bind,Sem.run_pure,Result.andThen_ok,List.map_toArray,List.map_cons,List.map_nil,←b3,←b4,a2]
 refine dW m (some id) new (.nds e X (p++[Nd.z]) none) v' (fun k=>φ id k∨dw v'=some k) v.ownBlock h3 (fun k hk=>⟨id,_,rfl,hi,rfl,hs k (by rw[cE D];exact hk)⟩) (.inl hn)
  (fun _ k hk=>?_) (fun _ k hk=>?_) (fun F' b5 hF b6=>?_) (by rw[rY];rfl) (fun _=>rfl) (fun F' b5 hF b6 a3=>by simp only[V];exact⟨a3,_,_,_,B⟩)
 ·rcases hk with hk | hk
  ·exact Nat.lt_of_lt_of_le (O k hk) h3.size
  ·rcases h2.2 with⟨e,_⟩ | ⟨g',cap,a1,e,_,hh,_⟩
   ·rw[e]at hk;simp[dw]at hk
   ·rw[e]at hk;simp only[dw,Option.some.injEq]at hk;subst hk;rcases Nat.lt_or_ge g' w'.heap.size with q | q
    ·exact q
    ·rw[Array.getElem?_eq_none q]at hh;cases hh
 ·rcases hk with hk | hk
  ·exact .inr ⟨id,_,rfl,hi,rfl,hk⟩
  ·rcases h6 k (by rw[←cE B];exact hk)with q | q
   ·exact .inl q
   ·exact .inr ⟨id,_,rfl,hi,rfl,hs k (by rw[cE D];exact q)⟩
 have E:(p++[Nd.z]).length=p.length+1:=by simp
 have hcl:=A.1;refine⟨fun k hk=> .inr hk,fun _ _ _ e=>(by cases e),cells++[.map none,.slice none 0 0],by rw[E];exact h2,fun q f hq=>?_,fun q f q' f' Y a4 b b7 _ _ e1 X b1 b2=>?_⟩
 ·rw[E]at hq;rcases Nat.lt_or_ge q p.length with a5 | c3
  ·obtain⟨Y,p1,p2,p3,_⟩:=h4 q f a5;obtain⟨p4,p5⟩:=p3 (N q f);have hin:∀k,dw Y=some k→φ id k:=by cases f <;> exact p4.1
   have a6:∀k,dw Y=some k→w'.heap[k]? = w.heap[k]? :=fun k hk=>h3.block k (O k (hin k hk)) (fun e=>p5 k hk (by rw[cE D,←e]))
   refine⟨Y,by rw[List.getElem?_append_left (List.getElem?_eq_some_iff.1 p1).1];exact p1,p2,fun _=>⟨?_,fun k hk e=>?_⟩,fun j e=>by cases e⟩
   ·rw[List.getElem_append_left a5];cases f with
    | false=>exact⟨fun k hk=> .inl (hin k hk),p4.2.mono a6⟩
    | true=>exact⟨fun k hk=> .inl (hin k hk),fL a6 p4.2⟩
   ·rcases h6 k (by rw[←cE B];exact e)with q | q
    ·have:=O k (hin k hk);omega
    ·exact p5 k hk (by rw[cE D];exact q)
  ·obtain rfl:q=p.length:=by omega
   refine⟨if f then .slice none 0 0 else .map none,?_,?_,fun _=>⟨?_,fun k hk=>?_⟩,fun j e=>by cases e⟩
   ·rw[List.getElem?_append_right (by omega),show p.length*2+f.toNat - cells.length=f.toNat by omega];cases f <;> rfl
   ·cases f
    ·exact⟨_,rfl⟩
    ·exact⟨_,_,_,rfl⟩
   ·rw[List.getElem_append_right (by omega)];simp only[Nat.sub_self,List.getElem_cons_zero];cases f
    ·exact⟨fun k hk=>by simp[dw]at hk,rfl,rfl⟩
    ·exact⟨fun k hk=>by simp[dw]at hk,World.ownsRow_nil _ 0 X 1⟩
   ·cases f <;> simp[dw]at hk
 ·have I:∀q (f:Bool) v b,(cells++[Value.map none,.slice none 0 0])[q*2+f.toNat]? = some v→dw v=some b→cells[q*2+f.toNat]? = some v:=fun q f v b J a7=>by
   rcases Nat.lt_or_ge (q*2+f.toNat) cells.length with hl | hl
   ·rwa [List.getElem?_append_left hl]at J
   ·rw[List.getElem?_append_right hl]at J;generalize q*2+f.toNat - cells.length=d at J;match d,J with
    | 0,J=>cases J;simp[dw]at a7
    | 1,J=>cases J;simp[dw]at a7
  exact h5 q f q' f' Y a4 b b7 (N _ _) (N _ _) (I q f Y b e1 b1) (I q' f' a4 b X b2) b1 b2
/-! ### Maps b8 c4 be none -/
theorem Hr(m:Mem Bw w0 ρ φ h w){id:Nat}{b:Bool}{j:Qq}(hi:h id=some (.mpq b j)){v:Value}(p:V (Fr (own φ h) Bw w) ρ (.mp id) v):C5 w b j v:=by
 obtain⟨u,q,_,_,x⟩:=m.ob id _ hi;simp only[V]at p;rw[p.1]at q;cases q;exact x
theorem Db(m:Mem Bw w0 ρ φ h w){o:Oper}{a:Act}{t I J:TypeId}{ti L M:TI}(ht:aN P t ti)(hk:ti.k = .mp I J)(j:aN P I M)(q:M.k = .int .i32)(u:aN P J L)(hT:L.T=some (.int .i64))
  {N x:Operand} {v:Bool} (O:o.op = .lookup t N x v) {id:Nat} {b:Bool} {X:Qq} (hi:h id=some (.mpq b X)) (hx:V (Fr (own φ h) Bw w) ρ (.mp id) (a.eval N)) {z:Bool} {i:Int} (A:V (Fr (own φ h) Bw w) ρ (.p z (.int .i32) i) (a.eval x)) :
  Good P o a w (aF Bw w0 ρ φ h w new (zu .i64 v (bh (α:=Int) (.int .i32) X i)) []):=by
 have Y:a.eval x=aS (.int .i32) i:=rD rfl rfl A;have Z:=Hr m hi hx;cases b with
 | false =>
  obtain⟨B,rfl⟩:=Z;exact look_nil m ht hk j q u hT O B Y
 | true =>
  obtain⟨r,es,cl,B,hb,_,C,D,E⟩:=Z;exact Ew m ht hk j q u hT O B Y hb C D E
theorem zD(d:Nat){t k e:TypeId}(h:P.underlying t=some (.map k e))(r:QJ):(Op.equalIn (d+1) t (.map r) (.map none)).run P w = .ok r.isNone w:=by
 cases r <;> simp[Op.equalIn,run_underlying h]
theorem Iu(m:Mem Bw w0 ρ φ h w){o:Oper}{a:Act}{t A B C:TypeId}{ti:TI}(ht:aN P t ti)(hk:ti.k = .mp A B){op:BinOp}{xo yo:Operand}(D:o.op = .binOp op t xo yo C){id:Nat}{b:Bool}{E:Qq}
  (hi:h id=some (.mpq b E)) (I:V (Fr (own φ h) Bw w) ρ (.mp id) (a.eval xo)) (p:V (Fr (own φ h) Bw w) ρ (.lit (.map none)) (a.eval yo)) {r:ag} (J:Ig op (!b)=some r):Good P o a w (aF Bw w0 ρ φ h w new r []):=by
 have x:=Hr m hi I;simp only[V]at p;obtain⟨d,h1,h2⟩:=ht.hu;rw[hk]at h2;simp only[UK]at h2;subst h2;obtain⟨q,L,j⟩:∃q:QJ,a.eval xo = .map q∧q.isNone = !b:=by
  cases b with
  | false=>exact⟨none,x.1,rfl⟩
  | true=>obtain⟨r,_,_,e,_⟩:=x;exact⟨some r,e,rfl⟩
 obtain⟨z,M,g2⟩:=sk (P:=P) (w:=w) (F:=Fr (own φ h) Bw w) (ρ:=ρ) (xo:=xo) (yo:=yo) J (bL (by intro N e;cases e) (by intro e;cases e)) (u:= .map q) (v:= .map none) (t:=t) (by
  unfold Op.equal Op.maxDepth;rw[←j];exact zD 9999 h1 q) ⟨rfl,rfl⟩
 exact Good.aG (v:=z) (w':=w) (by simp only[execOp,D,L,p];rw[Sem.run_bind,M];rfl) (aF.pure m g2)
theorem aF.as{x:ag}{u:gX}{v:Value}{w':World}(hp:aF Bw w0 ρ φ h w new x u v w'){i:Nat}{o j:Obj}(hi:apply u h i=some o)(hl:o.live=true)(z:j.live=true)(hc:∀F ρ S w u,OR F ρ S w o u→OR F ρ S w j u):
  aF Bw w0 ρ φ h w new x (u++[(i,some j)]) v w':=by
 obtain⟨B,C,E,I,J,L,M⟩:=hp;obtain⟨N,D⟩:=E.as hi hl z hc;have e:apply (u++[(i,some j)]) h=bF (apply u h) i (some j):=by rw[eV];rfl
 exact⟨B,C,by rw[e];exact N,by rw[e];exact fun β a v O=>D _ _ _ (I _ _ _ O),J,L,by rw[e];exact V.mono D (fun _ _ h=>h) M⟩
theorem IX{F:Bool→Addr→Value→Prop}{ρ:Nat→QW}{S:Nat→Prop}{w:World}{q:Qq}{u:Value}(h:OR F ρ S w (.mpq true q) u):OR F ρ S w (.mpo (.int .i32) (.int .i64) q) u:=by
 obtain⟨C,_,r,j,cl,rfl,hb,hB,v,p,z⟩:=h;refine⟨r,j,cl,rfl,C r rfl,hb,⟨rfl,hB⟩,v,z,fun i hi=>?_⟩;have hl:j.size=q.length:=by have:=congrArg List.length p;simpa using this
 have B:j[i]? = some j[i]:=Array.getElem?_eq_getElem (by omega);refine⟨j[i],B,?_⟩;have:=congrArg (fun l=>l[i]?) p;simp only[List.getElem?_map,Array.getElem?_toList,B,List.getElem?_eq_getElem hi,Option.map_some,Option.some.injEq]at this;rw[this];exact⟨rfl,rfl,fun _=>rfl,fun h=>by cases h⟩
theorem JI{F:Bool→Addr→Value→Prop}{ρ:Nat→QW}{S:Nat→Prop}{w:World}{j:Qq}{u:Value}(h:OR F ρ S w (.mpo (.int .i32) (.int .i64) j) u):OR F ρ S w (.mpq true j) u:=by
 obtain⟨h1,h2⟩:=AG h;have p:=h2;obtain⟨r,_,_,e,_⟩:=p;exact⟨h1,⟨_,e⟩,h2⟩
theorem Gb(m:Mem Bw w0 ρ φ h w){o:Oper}{a:Act}{t q X:TypeId}{ti M:TI}(ht:aN P t ti)(hk:ti.k = .mp q X)(u:aN P q M)(z:M.k = .int .i32)
  {N B C:Operand} (Y:o.op = .mapUpdate t N B C) {id:Nat} {b:Bool} {j:Qq} (hi:h id=some (.mpq b j)) (Z:V (Fr (own φ h) Bw w) ρ (.mp id) (a.eval N)) {β D:Bool} {i n:Int} (E:V (Fr (own φ h) Bw w) ρ (.p D (.int .i32) i) (a.eval B))
  (hy:V (Fr (own φ h) Bw w) ρ (.p β (.int .i64) n) (a.eval C)) (hb:b=true) :
  Good P o a w (aF Bw w0 ρ φ h w new .unk [(id,some (.mpo (.int .i32) (.int .i64) j)),(id,some (.mpo (.int .i32) (.int .i64) (cN (α:=Int) (.int .i32) j i n))),(id,some (.mpq true (cN (α:=Int) (.int .i32) j i n)))]):=by
 subst hb;obtain⟨m',O⟩:=m.as hi rfl rfl (fun _ _ _ _ _=>IX);have I:hY P q (.int .i32):=hY.Ea u (by rw[z];rfl);have e2:a.eval B=aS (.int .i32) i:=rD rfl rfl E;have J:V (Fr (own φ (bF h id (some (.mpo (.int .i32) (.int .i64) j)))) Bw w) ρ (.p false (.int .i64) n) (a.eval C):=by rw[bQ hy];exact dF _ _ _
 have hg:=lh (new:=new) m' ht hk I (A:= .int .i64) (.inl Y) (us:=[]) (aB _ _ _) (aB _ _ _) (V.mono O (fun _ _ h=>h) Z) e2 J rfl rfl (x:=n) rfl;refine fun K Q L=>hg K Q fun v w' hp=>L v w' ?_
 exact aF.as (aF.after (u1:=[(id,some (.mpo (.int .i32) (.int .i64) j))]) rfl O hp) (o:= .mpo (.int .i32) (.int .i64) (cN (α:=Int) (.int .i32) j i n)) (by rw[eV];exact aB _ _ _) rfl rfl (fun _ _ _ _ _=>JI)
end
def zY(tb:bT)(t:TypeId):Option (TypeId×TI) :=
 match tb.find t with
 | some ti=>match ti.k with
  | .sl e=>match tb.find e with
   | some j=>some (e,j)
   | none=>none
  | _=>none
 | none=>none
theorem iA{P:Program}{tb:bT}(j:bX P tb){t e:TypeId}{q:TI}(h:zY tb t=some (e,q)):∃ti,aN P t ti∧ti.k = .sl e∧aN P e q:=by
 unfold zY at h;split at h
 ·rename_i ti ht;split at h
  ·rename_i x hk;split at h
   ·rename_i u p;cases h;exact⟨ti,j.find ht,hk,j.find p⟩
   ·cases h
  ·cases h
 ·cases h
def Gv(tb:bT)(t:TypeId)(x:ag)(h:Nat→Qz):Qk :=
 match x with
 | .adr id i 2 off=>match h id with
  | some (.nds _ _ _ (some (k,f,j)))=>match tb.find t with
   | some ti=>if ti.k.agg=false∧off=f.toNat then some (yS f j,[],i=k)else none
   | none=>none
  | _=>none
 | _=>none
def Kk:ag→Option (Bool×Nat)
 | .mp r=>some (false,r)
 | .sl r=>some (true,r)
 | _=>none
def KO(j:Option (Nat×Bool×Nat))(i:Nat)(f:Bool)(n:Nat):Prop :=
 match j with
 | none=>i<n
 | some (k,g,_)=>k=i∧g=f
def D1(tb:bT)(t:TypeId)(x y:ag)(h:Nat→Qz):Qk :=
 match x with
 | .adr id i 2 off=>match h id with
  | some (.nds e p j q)=>match tb.find t with
   | some ti=>match Kk y with
    | some (f,r)=>if ti.size=1∧off=f.toNat then some (.unk,[(id,some (.nds e p j (some (i,f,r))))],KO q i f j.length)else none
    | none=>none
   | none=>none
  | _=>none
 | _=>none
def Da(tb:bT)(t:TypeId)(x i:ag)(h:Nat→Qz):Qk :=
 match x with
 | .sl id=>match h id with
  | some (.nds _ _ j _)=>match i with
   | .p _ (.int _) n=>match zY tb t with
    | some (_,q)=>if q.size=2 then some (.adr id (show Int from n).toNat 2 0,[],0≤(show Int from n)∧(show Int from n)<(j.length:Int))else none
    | none=>none
   | _=>none
  | _=>none
 | _=>none
def Ku(tb:bT)(op:BinOp)(t:TypeId)(x y:ag)(h:Nat→Qz):Qk :=
 match x,y with
 | .mp id,.lit (.map none)=>match h id with
  | some (.mpq b _)=>match tb.find t with
   | some ti=>match ti.k with
    | .mp _ _=>match Ig op (!b)with
     | some r=>some (r,[],True)
     | none=>none
    | _=>none
   | none=>none
  | _=>none
 | _,_=>none
def Ia(tb:bT)(t:TypeId)(x k:ag)(j:Bool)(h:Nat→Qz):Qk :=
 match x,k with
 | .mp id,.p _ (.int .i32) i=>match h id with
  | some (.mpq _ q)=>match tb.find t with
   | some ti=>match ti.k with
    | .mp u v=>match tb.find u,tb.find v with
     | some z,some A=>match z.k with
      | .int .i32=>if A.T=some (.int .i64)then some (zu .i64 j (bh (α:=Int) (.int .i32) q i),[],True)else none
      | _=>none
     | _,_=>none
    | _=>none
   | none=>none
  | _=>none
 | _,_=>none
def Lc(tb:bT)(t:TypeId)(x k y:ag)(h:Nat→Qz):Qk :=
 match x with
 | .mp id=>match k,y with
  | .p _ (.int .i32) i,.p _ (.int .i64) n=>match h id with
   | some (.mpq b j)=>match tb.find t with
    | some ti=>match ti.k with
     | .mp q _=>match tb.find q with
      | some u=>match u.k with
       | .int .i32=>some (.unk,[(id,some (.mpo (.int .i32) (.int .i64) j)),(id,some (.mpo (.int .i32) (.int .i64) (cN (α:=Int) (.int .i32) j i n))),(id,some (.mpq true (cN (α:=Int) (.int .i32) j i n)))],b=true)
       | _=>none
      | none=>none
     | _=>none
    | none=>none
   | _=>none
  | _,_=>none
 | _=>none
def Ib(tb:bT)(j:TI):Option TypeId :=
 match j.z with
 | [.lit (.map none),.nils]=>if j.size=2 then(match j.k with
  | .st [_,(1,p)]=>match tb.find p with
   | some ti=>match ti.k with
    | .sl q=>some q
    | _=>none
   | none=>none
  | _=>none)else none
 | _=>none
theorem CC{tb:bT}{j:TI}{p:TypeId}(h:Ib tb j=some p):j.z=[.lit (.map none),.nils]∧j.size=2:=by
 unfold Ib at h;split at h
 ·rename_i hz;split at h
  ·rename_i q;exact⟨hz,q⟩
  ·cases h
 ·cases h
def Kl(fl:Bool)(tb:bT)(new:Nat)(t:TypeId)(l c:ag):Qk :=
 match fl with
 | true=>match zY tb t with
  | some (e,j)=>match Ib tb j with
   | some q=>match l,c with
    | .p _ (.int _) n,.p _ (.int _) k=>some (.sl new,[(new,some (.nds e q (List.replicate (show Int from n).toNat Nd.z) none))],0≤(show Int from n)∧(show Int from n)≤k∧(j.bytes:Int)*k≤281474976710656∧(show Int from k)≤9223372036854775807)
    | _,_=>none
   | none=>none
  | none=>none
 | false=>none
def KL(tb:bT)(t:TypeId)(x:ag)(h:Nat→Qz):Qk :=
 match x with
 | .sl id=>match h id with
  | some (.nds _ _ j _)=>match zY tb t with
   | some _=>some (.p false (.int .i64) (j.length:Int),[],True)
   | none=>none
  | _=>none
 | _=>none
def isNode:List ag→Bool
 | [.lit (.map none),.nils]=>true
 | _=>false
theorem Ff{j:List ag}(h:isNode j=true):j=[.lit (.map none),.nils]:=by
 unfold isNode at h;split at h
 ·rfl
 ·cases h
def K4(tb:bT)(new:Nat)(t u:TypeId)(x y:ag)(h:Nat→Qz):Qk :=
 match x,y with
 | .sl id,.sl r=>match h id,h r with
  | some (.nds e q j none),some (.vrow 1 2 v)=>if isNode v=true∧u=t then(match zY tb t with
   | some (A,p)=>if A=e∧p.size=2 then some (.sl new,[(id,none),(new,some (.nds e q (j++[Nd.z]) none))],(j.length+1)*p.bytes≤140737488355328∧j.length+1≤9223372036854775807)else none
   | none=>none)else none
  | _,_=>none
 | _,_=>none
def pN(tb:bT)(new:Nat)(fl:Bool)(op:Op)(s:Nat→ag)(h:Nat→Qz):Qk :=
 match op with
 | .load t x=>Gv tb t (ev s x) h
 | .store t x y=>D1 tb t (ev s x) (ev s y) h
 | .indexAddr t x i=>Da tb t (ev s x) (ev s i) h
 | .binOp op t x y _=>Ku tb op t (ev s x) (ev s y) h
 | .lookup t x k j=>Ia tb t (ev s x) (ev s k) j h
 | .mapUpdate t x k y=>Lc tb t (ev s x) (ev s k) (ev s y) h
 | .makeSlice t l c=>Kl fl tb new t (ev s l) (ev s c)
 | .call c=>match c.callee with
  | .builtin .len=>match c.args.toList,c.argTypes.toList with
   | [x],[t]=>KL tb t (ev s x) h
   | _,_=>none
  | .builtin .append=>match c.args.toList,c.argTypes.toList with
   | [x,y],[t,u]=>K4 tb new t u (ev s x) (ev s y) h
   | _,_=>none
  | _=>none
 | _=>none
section
variable{P:Program}{tb:bT}{Bw:Nat→Prop}{w0:cC P}{ρ:Nat→QW}{φ:Nat→Nat→Prop}{h:Nat→Qz}{w:World}{new:Nat}{n:NS}{s:Nat→ag}{a:Act}
theorem Fp(z:bX P tb)(m:Mem Bw w0 ρ φ h w)(B:fb n (Fr (own φ h) Bw w) ρ s a)(hn:ρ new=none){o:Oper}{fl:Bool}{x:ag}{u:gX}{c:Prop}
  (hd:pN tb new fl o.op s h=some (x,u,c)) (hc:c):Good P o a w (aF Bw w0 ρ φ h w new x u):=by
 unfold pN at hd;split at hd
 ·-- load
  rename_i t C D;have A:=aU B C;unfold Gv at hd;split at hd
  ·rename_i id i off ex;rw[ex]at A;split at hd
   ·rename_i e e2 ns k f j v;split at hd
    ·rename_i ti ht;split at hd
     ·rename_i hq;obtain⟨h1,rfl⟩:=hq;cases hd;exact zE m (z.find ht) h1 A D v hc
     ·cases hd
    ·cases hd
   ·cases hd
  ·cases hd
 ·-- store
  rename_i t C L D;have A:=aU B C;have I:=aU B L;unfold D1 at hd;split at hd
  ·rename_i id i off ex;rw[ex]at A;split at hd
   ·rename_i e e2 ns hole v;split at hd
    ·rename_i ti ht;split at hd
     ·rename_i f r hp;split at hd
      ·rename_i hq;obtain⟨h1,rfl⟩:=hq;cases hd;have a1:V (Fr (own φ h) Bw w) ρ (yS f r) (a.eval L):=by
        unfold Kk at hp;split at hp
        ·rename_i e;cases hp;rw[e]at I;exact I
        ·rename_i e;cases hp;rw[e]at I;exact I
        ·cases hp
       obtain⟨_,_,_,a4,_⟩:=m.ob id _ v;cases hole with
       | none=>exact qg m (z.find ht) h1 A a1 D v hc (fun k g j e=>by cases e)
       | some p =>
        obtain⟨k,g,j⟩:=p;obtain⟨rfl,rfl⟩:=hc;exact qg m (z.find ht) h1 A a1 D v (a4 _ _ _ rfl) (fun k g j e=>by cases e;exact⟨rfl,rfl⟩)
      ·cases hd
     ·cases hd
    ·cases hd
   ·cases hd
  ·cases hd
 ·-- index
  rename_i t C io D;have A:=aU B C;have hi:=aU B io;unfold Da at hd;split at hd
  ·rename_i id ex;rw[ex]at A;split at hd
   ·rename_i e e2 ns hole v;split at hd
    ·rename_i β k n ei;rw[ei]at hi;split at hd
     ·rename_i e' te E;split at hd
      ·rename_i M;cases hd;obtain⟨ti,h1,h2,Z⟩:=iA z E;exact xu m h1 h2 Z M A v hi D hc.1 hc.2
      ·cases hd
     ·cases hd
    ·cases hd
   ·cases hd
  ·cases hd
 ·-- binOp
  rename_i op t C L t' D;have A:=aU B C;have I:=aU B L;unfold Ku at hd;split at hd
  ·rename_i id ex ey;rw[ex]at A;rw[ey]at I;split at hd
   ·rename_i b kv v;split at hd
    ·rename_i ti ht;split at hd
     ·rename_i kt et hk;split at hd
      ·rename_i r hr;cases hd;exact Iu m (z.find ht) hk D v A I hr
      ·cases hd
     ·cases hd
    ·cases hd
   ·cases hd
  ·cases hd
 ·-- lookup
  rename_i t C ko a9 D;have A:=aU B C;have hk:=aU B ko;unfold Ia at hd;split at hd
  ·rename_i id β i ex ek;rw[ex]at A;rw[ek]at hk;split at hd
   ·rename_i b kv v;split at hd
    ·rename_i ti ht;split at hd
     ·rename_i kt et N;split at hd
      ·rename_i tk te O a5;split at hd
       ·rename_i J;split at hd
        ·rename_i hT;cases hd;exact Db m (z.find ht) N (z.find O) J (z.find a5) hT D v A hk
        ·cases hd
       ·cases hd
      ·cases hd
     ·cases hd
    ·cases hd
   ·cases hd
  ·cases hd
 ·-- mapUpdate
  rename_i t C ko L D;have A:=aU B C;have hk:=aU B ko;have I:=aU B L;unfold Lc at hd;split at hd
  ·rename_i id ex;rw[ex]at A;split at hd
   ·rename_i β i a6 n ek ey;rw[ek]at hk;rw[ey]at I;split at hd
    ·rename_i b kv v;split at hd
     ·rename_i ti ht;split at hd
      ·rename_i kt et N;split at hd
       ·rename_i tk O;split at hd
        ·rename_i J;cases hd;exact Gb m (z.find ht) N (z.find O) J D v A hk I hc
        ·cases hd
       ·cases hd
      ·cases hd
     ·cases hd
    ·cases hd
   ·cases hd
  ·cases hd
 ·-- makeSlice
  rename_i t lo co D;have hl:=aU B lo;have a2:=aU B co;unfold Kl at hd;split at hd
  ·split at hd
   ·rename_i e te E;split at hd
    ·rename_i e2 a7;split at hd
     ·rename_i β k n a6 k' n' el ec;rw[el]at hl;rw[ec]at a2;cases hd;obtain⟨ti,h1,h2,Z⟩:=iA z E;obtain⟨h4,h5⟩:=CC a7;exact zM m hn h1 h2 Z h4 h5 D hl a2 hc.1 hc.2.1 hc.2.2.1 hc.2.2.2
     ·cases hd
    ·cases hd
   ·cases hd
  ·cases hd
 ·-- call
  rename_i c0 D;obtain⟨callee,args,a3⟩:=c0;simp only at hd;split at hd
  ·split at hd
   ·rename_i C t ea et;have X:args = #[C]:=Array.ext' ea;have Y:a3 = #[t]:=Array.ext' et;subst X Y;have A:=aU B C;unfold KL at hd;split at hd
    ·rename_i id ex;rw[ex]at A;split at hd
     ·rename_i e e2 ns hole v;split at hd
      ·rename_i q E;obtain⟨e',te⟩:=q;cases hd;obtain⟨ti,h1,h2,Z⟩:=iA z E;exact Cm m h1 h2 A v D
      ·cases hd
     ·cases hd
    ·cases hd
   ·cases hd
  ·split at hd
   ·rename_i C L t u' ea et;have X:args = #[C,L]:=Array.ext' ea;have Y:a3 = #[t,u']:=Array.ext' et;subst X Y;have A:=aU B C;have I:=aU B L;unfold K4 at hd;split at hd
    ·rename_i id r ex ey;rw[ex]at A;rw[ey]at I;split at hd
     ·rename_i e e2 ns cs v hr;split at hd
      ·rename_i hq;obtain⟨h1,rfl⟩:=hq;obtain rfl:=Ff h1;split at hd
       ·rename_i e' te E;split at hd
        ·rename_i a8;obtain⟨rfl,M⟩:=a8;cases hd;obtain⟨ti,h1,h2,Z⟩:=iA z E;exact CA m hn h1 h2 Z M A I D v hr hc.1 hc.2
        ·cases hd
       ·cases hd
      ·cases hd
     ·cases hd
    ·cases hd
   ·cases hd
  ·cases hd
 ·cases hd
theorem Dg{s E:Nat→ag}{h h':Nat→Qz}{op:Op}{fl:Bool}(q:∀x∈op.operands.toList,ev s x=ev E x)(key:∀x∈op.operands.toList,(¬((∃x,op = .move x)∨(∃x,op = .assign x)∨(∃x,op = .nilCheck x)∨∃t x f,op = .fieldAddr t x f))→∀i∈ids (ev s x),h i=h' i):
  pN tb new fl op s h=pN tb new fl op E h':=by
 have v:∀x∈op.operands.toList,(¬((∃x,op = .move x)∨(∃x,op = .assign x)∨(∃x,op = .nilCheck x)∨∃t x f,op = .fieldAddr t x f))→∀y,ev s x=y→∀i∈ids y,h i=h' i:=fun x j B y e i hi=>key x j B i (by rw[e];exact hi)
 cases op with
 | load t x =>
  have j:=v x (by simp[Op.operands]) (by rintro(⟨_,e⟩ | ⟨_,e⟩ | ⟨_,e⟩ | ⟨_,_,_,e⟩) <;> cases e);simp only[pN,←q x (by simp[Op.operands])];unfold Gv;split
  ·rename_i id i off ex;rw[j _ ex id (by simp[ids])]
  ·rfl
 | store t x y =>
  have j:=v x (by simp[Op.operands]) (by rintro(⟨_,e⟩ | ⟨_,e⟩ | ⟨_,e⟩ | ⟨_,_,_,e⟩) <;> cases e);simp only[pN,←q x (by simp[Op.operands]),←q y (by simp[Op.operands])];unfold D1;split
  ·rename_i id i off ex;rw[j _ ex id (by simp[ids])]
  ·rfl
 | indexAddr t x i =>
  have j:=v x (by simp[Op.operands]) (by rintro(⟨_,e⟩ | ⟨_,e⟩ | ⟨_,e⟩ | ⟨_,_,_,e⟩) <;> cases e);simp only[pN,←q x (by simp[Op.operands]),←q i (by simp[Op.operands])];unfold Da;split
  ·rename_i id ex;rw[j _ ex id (by simp[ids])]
  ·rfl
 | binOp o t x y J =>
  have j:=v x (by simp[Op.operands]) (by rintro(⟨_,e⟩ | ⟨_,e⟩ | ⟨_,e⟩ | ⟨_,_,_,e⟩) <;> cases e);simp only[pN,←q x (by simp[Op.operands]),←q y (by simp[Op.operands])];unfold Ku;split
  ·rename_i id ex C;rw[j _ ex id (by simp[ids])]
  ·rfl
 | lookup t x k I =>
  have j:=v x (by simp[Op.operands]) (by rintro(⟨_,e⟩ | ⟨_,e⟩ | ⟨_,e⟩ | ⟨_,_,_,e⟩) <;> cases e);simp only[pN,←q x (by simp[Op.operands]),←q k (by simp[Op.operands])];unfold Ia;split
  ·rename_i id β i ex C;rw[j _ ex id (by simp[ids])]
  ·rfl
 | mapUpdate t x k y =>
  have j:=v x (by simp[Op.operands]) (by rintro(⟨_,e⟩ | ⟨_,e⟩ | ⟨_,e⟩ | ⟨_,_,_,e⟩) <;> cases e);simp only[pN,←q x (by simp[Op.operands]),←q k (by simp[Op.operands]),←q y (by simp[Op.operands])];unfold Lc;split
  ·rename_i id ex;rw[j _ ex id (by simp[ids])]
  ·rfl
 | makeSlice t l c=>simp only[pN,q l (by simp[Op.operands]),q c (by simp[Op.operands])]
 | call c =>
  obtain⟨callee,args,D⟩:=c;have p:∀x∈args.toList,x∈(Op.call { callee,args,argTypes:=D }).operands.toList:=fun x j=>by simp only[Op.operands,Call.operands,Array.toList_append,List.mem_append];exact .inr j
  have j:∀x∈args.toList,∀y,ev s x=y→∀i∈ids y,h i=h' i:=fun x j=>v x (p x j) (by rintro(⟨_,e⟩ | ⟨_,e⟩ | ⟨_,e⟩ | ⟨_,_,_,e⟩) <;> cases e)
  simp only[pN];split
  ·split
   ·rename_i x t A _;have hm:x∈args.toList:=by rw[A];simp
    rw[←q x (p x hm)];unfold KL;split
    ·rename_i id ex;rw[j x hm _ ex id (by simp[ids])]
    ·rfl
   ·rfl
  ·split
   ·rename_i x y t u A _;have hm:x∈args.toList:=by rw[A];simp
    have z:y∈args.toList:=by rw[A];simp
    rw[←q x (p x hm),←q y (p y z)];unfold K4;split
    ·rename_i id r ex C;rw[j x hm _ ex id (by simp[ids]),j y z _ C r (by simp[ids])]
    ·rfl
   ·rfl
  ·rfl
 | _=>rfl
end
end Go.Tv
