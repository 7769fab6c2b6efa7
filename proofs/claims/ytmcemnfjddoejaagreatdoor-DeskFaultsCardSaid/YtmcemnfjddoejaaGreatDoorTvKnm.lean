import Derived.Test.YtmcemnfjddoejaaGreatDoorTvL
import Derived.Test.YtmcemnfjddoejaaGreatDoorTvKlm
namespace Go.Tv
open Go Go.RowKit
section
variable{P:Program}{tb:bP}{Bw:Nat→Prop}{w0:cu P}{ρ:Nat→QW}{φ:Nat→Nat→Prop}{h:Nat→Qz}{w:World}{new:Nat}
def zX:Bool→Nat→ag
 | false,j=> .mp j
 | true,j=> .sl j
theorem F3{F:Bool→Addr→Value→Prop}{f:Bool}{j:Nat}{v:Value}:V F ρ (zX f j) v↔ρ j=some v∧Dm f v:=by
 cases f <;> simp only[zX,V,Dm]
theorem Dm.one{f:Bool}{v:Value}(h:Dm f v):v.oneCell'=true:=by
 cases f with
 | false=>obtain⟨_,rfl⟩:=h;rfl
 | true=>obtain⟨_,_,_,rfl⟩:=h;rfl
theorem FK(m:Mem Bw w0 ρ φ h w){id:Nat}{e p:TypeId}{c:List Nd}{q:Option (Nat×Bool×Nat)}(hi:h id=some (.nds e p c q)){v:Value}(f:V (Fr (own φ h) Bw w) ρ (.sl id) v):
  (v = .slice none 0 0∧c.length=0)∨∃g cap,v = .slice (some ⟨g,0,none⟩) c.length cap∧c.length≤cap:=by
 obtain⟨u,j,_,_,cells,x,_⟩:=m.ob id _ hi;simp only[V]at f;rw[f.1]at j;cases j;rcases x.2 with⟨rfl,hn⟩ | ⟨g,cap,z,rfl,_,_,hn,_⟩
 ·exact .inl ⟨rfl,hn⟩
 ·exact .inr ⟨g,cap,rfl,hn⟩
theorem CO(m:Mem Bw w0 ρ φ h w){o:Oper}{a:Act}{t:TypeId}{ti:TI}(ht:aP P t ti){e:TypeId}(hk:ti.k = .sl e){f:Operand}{id:Nat}{j q:TypeId}{c:List Nd}{hole:Option (Nat×Bool×Nat)}(u:V (Fr (own φ h) Bw w) ρ (.sl id) (a.eval f))
  (hb:h id=some (.nds j q c hole)) (x:o.op = .call { callee:= .builtin .len,args:= #[f],argTypes:= #[t] }):Good P o a w (aG Bw w0 ρ φ h w new (.p false (.int .i64) (c.length:Int)) []):=by
 have hu:=aY ht hk;refine Good.aH (v:= .int .i64 c.length) (w':=w) ?_ (aG.pure m (dC _ _ _));simp only[execOp,x,resolve,invoke,builtin,Sem.run_bind,Sem.run_pure,Result.andThen_ok,List.map_toArray,List.map_cons,List.map_nil];rcases FK m hb u with⟨e,hn⟩ | ⟨g,cap,e,_⟩
 ·rw[e,hn];simp[Builtin.len_,run_underlying hu,goInt]
 ·rw[e];simp[Builtin.len_,run_underlying hu,goInt]
theorem zi(m:Mem Bw w0 ρ φ h w){o:Oper}{a:Act}{t e:TypeId}{ti c:TI}(ht:aP P t ti)(hk:ti.k = .sl e)(f:aP P e c)(j:c.size=2){u io:Operand}{id:Nat}{B C:TypeId}{x:List Nd}{hole:Option (Nat×Bool×Nat)}(q:V (Fr (own φ h) Bw w) ρ (.sl id) (a.eval u))
  (hb:h id=some (.nds B C x hole)) {β:Bool} {k:IntKind} {i:Int} (hi:V (Fr (own φ h) Bw w) ρ (.p β (.int k) i) (a.eval io)) (D:o.op = .indexAddr t u io) (E:0≤i) (hn:i<x.length) :
  Good P o a w (aG Bw w0 ρ φ h w new (.adr id i.toNat 2 0) []):=by
 have hu:=aY ht hk;have I:=bR hi;rcases FK m hb q with⟨_,h'⟩ | ⟨g,cap,z,A⟩
 ·omega
 simp only[V]at q;refine Good.aH (v:= .pointer (some ((⟨g,0,none⟩:Addr).add (i.toNat*c.size)))) (w':=w) ?_ (aG.pure m ?_)
 ·simp[execOp,D,Instr.indexAt,asIntOf,I,z,run_underlying hu,run_sizeOf f,E,hn]
 ·simp only[V];exact⟨g,.inr ⟨_,_,by rw[q.1,z]⟩,by rw[cf,j];simp⟩
theorem zB(m:Mem Bw w0 ρ φ h w){id i off:Nat}{e L:TypeId}{z:List Nd}{hole:Option (Nat×Bool×Nat)}(hb:h id=some (.nds e L z hole)){v:Value}(M:V (Fr (own φ h) Bw w) ρ (.adr id i 2 off) v)(hi:i<z.length):
  ∃g cap q,v = .pointer (some ⟨g,i*2+off,none⟩)∧ρ id=some (.slice (some ⟨g,0,none⟩) z.length cap)∧φ id g∧w.heap[g]? = some (.cells q e (0,0))∧z.length≤cap∧cap≤maxLen∧q.size=cap*2 ∧
   (∀i f (h:i<z.length),∃v,(q.toList.take (z.length*2))[i*2+f.toNat]? = some v∧Dm f v∧(nt hole i f→A4 (φ id) w L v f z[i]∧∀k,dg v=some k→k≠g)∧∀j,hole=some (i,f,j)→ρ j=some v) ∧
   ∀i f j g N O b,¬(i=j∧f=g)→nt hole i f→nt hole j g→(q.toList.take (z.length*2))[i*2+f.toNat]? = some N→(q.toList.take (z.length*2))[j*2+g.toNat]? = some O→dg N=some b→dg O≠some b:=by
 obtain⟨u,X,Z,_,cells,h3,h4,h5⟩:=m.ob id _ hb;simp only[V]at M;obtain⟨g,A,he⟩:=M;rcases h3.2 with⟨rfl,hn⟩ | ⟨I,cap,q,rfl,_,B,C,D,E,x⟩
 ·omega
 have J:I=g:=by
  rw[X]at A;rcases A with A | ⟨n,c,A⟩
  ·cases A
  ·simp only[Option.some.injEq,Value.slice.injEq,Addr.mk.injEq]at A;exact A.1.1
 subst J;refine⟨I,cap,q,he,X,Z I rfl,B,C,D,E,?_,?_⟩
 ·rw[x];intro r f hr;obtain⟨v,c1,c2,Y,c4⟩:=h4 r f hr;exact⟨v,c1,c2,fun s=>⟨(Y s).1,fun k hk e=>(Y s).2 k hk (by rw[e];rfl)⟩,c4⟩
 ·rw[x];exact h5
theorem AB(m:Mem Bw w0 ρ φ h w){o:Oper}{a:Act}{t:TypeId}{ti:TI}(ht:aP P t ti)(hk:ti.k.agg=false){B:Operand}{id i k j:Nat}{f:Bool}(D:V (Fr (own φ h) Bw w) ρ (.adr id i 2 f.toNat) (a.eval B))(E:o.op = .load t B)
  {e I:TypeId} {J:List Nd} (hb:h id=some (.nds e I J (some (k,f,j)))) (x:i=k) :
  Good P o a w (aG Bw w0 ρ φ h w new (zX f j) []):=by
 subst x;obtain⟨u,_,_,z,_⟩:=m.ob id _ hb;have hi:=z i f j rfl;obtain⟨g,cap,L,M,Y,_,c,A,_,C,N,_⟩:=zB m hb D hi;obtain⟨v,q,O,_,X⟩:=N i f hi;have p:w.cell? ⟨g,i*2+f.toNat,none⟩=some v:=by
  rw[List.getElem?_take]at q;split at q
  ·simp only[World.cell?,c];rw[←Array.getElem?_toList];exact q
  ·cases q
 refine Good.aH (v:=v) (w':=w) ?_ (aG.pure m (F3.2 ⟨X j rfl,O⟩));simp only[execOp,E,Instr.loadAt,M,Instr.sureAddr,Sem.run_bind,Sem.run_pure,Result.andThen_ok];unfold loadVar;rw[Sem.run_bind,lf ht];simp only[Result.andThen_ok,hk];rw[if_neg (by simp),run_load,p];rfl
theorem qG(m:Mem Bw w0 ρ φ h w){o:Oper}{a:Act}{t:TypeId}{ti:TI}(ht:aP P t ti)(O:ti.size=1){xo yo:Operand}{id i r:Nat}{f:Bool}(hx:V (Fr (own φ h) Bw w) ρ (.adr id i 2 f.toNat) (a.eval xo))
  (hy:V (Fr (own φ h) Bw w) ρ (zX f r) (a.eval yo)) (ho:o.op = .store t xo yo) {e e2:TypeId} {z:List Nd} {hole:Option (Nat×Bool×Nat)} (hi:h id=some (.nds e e2 z hole)) (a1:i<z.length)
  (hh:∀k g j,hole=some (k,g,j)→k=i∧g=f):Good P o a w (aG Bw w0 ρ φ h w new .unk [(id,some (.nds e e2 z (some (i,f,r))))]):=by
 obtain⟨hr,hv⟩:=F3.1 hy;generalize a5:a.eval yo=A at hr hv;have B:A.cells = #[A]:=fE hv.one;obtain⟨J,cap,u,he,q1,hs,C,X,Y,L,h4,h5⟩:=zB m hi hx a1;have aa:f.toNat<2:=by cases f <;> decide
 have M:=gN (P:=P) ht C (v:=A) (p:=i*2+f.toNat) (by rw[B,O];rfl) (by rw[L,O];omega) (fun c hc=>by
  rw[B]at hc;simp only[List.mem_singleton]at hc;rw[hc];exact hv.one)
 have D:(u.toList.take (i*2+f.toNat)++A.cells.toList++u.toList.drop (i*2+f.toNat+ti.size))=u.toList.set (i*2+f.toNat) A:=by rw[B,O,List.set_eq_take_append_cons_drop,if_pos (by simp only[Array.length_toList];omega)];simp
 rw[D]at M;have N:(u.toList.take (z.length*2)).length=z.length*2:=by simp only[List.length_take,Array.length_toList];omega
 refine Good.jM (w':=_) (by simp[execOp,ho,Instr.storeAt,he,Instr.sureAddr,a5];rw[M];rfl) ?_;refine dW m (some id) id (.nds e e2 z (some (i,f,r))) (.slice (some ⟨J,0,none⟩) z.length cap) (φ id) (some J) (bd w J _) (fun k e=>⟨id,_,rfl,hi,rfl,by cases e;exact hs⟩) (.inr ⟨rfl,q1⟩)
  (fun _ k hk=>Nat.lt_of_lt_of_le (m.lt id _ k hi rfl hk) (bd w J _).size) (fun _ k hk=> .inr ⟨id,_,rfl,hi,rfl,hk⟩) (fun F' a6 hF a2=>?_) (by rw[bg];rfl) (fun e=>by rw[q1]at e;cases e) (fun F' a6 hF a2 a9=>by simp only[V])
 have x:∀q g,nt (some (i,f,r)) q g→nt hole q g:=fun q g hq k g2 I e=>by obtain⟨rfl,rfl⟩:=hh k g2 I e;exact hq k g2 r rfl
 have E:∀q g,¬(q=i∧g=f)→((u.toList.take (z.length*2)).set (i*2+f.toNat) A)[q*2+g.toNat]? = (u.toList.take (z.length*2))[q*2+g.toNat]? :=fun q g hq=>by
  refine List.getElem?_set_ne fun e=>hq ?_
  cases f <;> cases g <;> simp at e ⊢ <;> omega
 refine⟨fun k e=>by cases e;exact hs,fun k g I e=>(by cases e;exact a1),(u.toList.take (z.length*2)).set (i*2+f.toNat) A,⟨by rw[List.length_set];exact N,.inr ⟨J,cap,(u.toList.set (i*2+f.toNat) A).toArray,rfl,Nat.zero_le _,setRow_heap w J u _ e _ C,X,Y,by simp only[List.size_toArray,List.length_set,Array.length_toList];exact L,?_⟩⟩,fun q g hq=>?_,fun q g q' g2 vj a7 b a8 s1 s2 e1 a3=>?_⟩
 ·show(u.toList.set (i*2+f.toNat) A).take (z.length*2)=_;rw[List.take_set]
 ·by_cases e:q=i∧g=f
  ·obtain⟨rfl,rfl⟩:=e;refine⟨A,by rw[List.getElem?_set_self (by rw[N];omega)],hv,fun Z=>absurd ⟨rfl,rfl⟩ (Z q g r rfl),fun I e=>?_⟩;cases e;exact a2 _ _ hr
  ·obtain⟨v,p1,p2,p3,_⟩:=h4 q g hq;refine⟨v,by rw[E q g e];exact p1,p2,fun Z=>?_,fun I e'=>by cases e';exact absurd ⟨rfl,rfl⟩ e⟩;obtain⟨b1,b2⟩:=p3 (x q g Z);have hin:∀k,dg v=some k→φ id k:=by cases g <;> exact b1.1
   have a4:∀k,dg v=some k→(w.setRow J (u.toList.set (i*2+f.toNat) A).toArray).heap[k]? = w.heap[k]? :=fun k hk =>
    (bd w J _).block k (m.lt id _ k hi rfl (hin k hk)) (fun e'=>b2 k hk (Option.some.inj e'))
   refine⟨?_,fun k hk e=>b2 k hk (by cases e;rfl)⟩;cases g with
   | false=>exact⟨hin,b1.2.mono a4⟩
   | true=>exact⟨hin,fL a4 b1.2⟩
 ·have n1:¬(q=i∧g=f):=s1 i f r rfl;have n2:¬(q'=i∧g2=f):=s2 i f r rfl;rw[E q g n1]at e1;rw[E q' g2 n2]at a3;exact h5 q g q' g2 vj a7 b a8 (x q g s1) (x q' g2 s2) e1 a3
theorem JB{z:QU}(h:z.toList.map kd=[.lit (.map none),.nils]):z = #[.map none,.slice none 0 0]:=by
 have:=gv (F:=fun _ _ _=>True) (ρ:=fun _=>none) z.toList;rw[h]at this;simp only[VL,V]at this;obtain⟨⟨u,c,e⟩,⟨v,f,j⟩,_⟩:=this;have hl:=congrArg List.length h;simp only[List.length_map,Array.length_toList,List.length_cons,List.length_nil]at hl;subst e j;refine Array.ext' (List.ext_getElem? fun i=>?_);match i with
 | 0=>exact c
 | 1=>exact f
 | i+2=>rw[List.getElem?_eq_none (by simp;omega),List.getElem?_eq_none (by simp)]
theorem AX(m:Mem Bw w0 ρ φ h w)(hn:ρ new=none){o:Oper}{a:Act}{t e J:TypeId}{ti L:TI}(ht:aP P t ti)(hk:ti.k = .sl e)(M:aP P e L)(hz:L.z=[.lit (.map none),.nils])(B:L.size=2)
  {lo co:Operand} (ho:o.op = .makeSlice t lo co) {β N:Bool} {kl kc:IntKind} {l c:Int} (hl:V (Fr (own φ h) Bw w) ρ (.p β (.int kl) l) (a.eval lo)) (hc:V (Fr (own φ h) Bw w) ρ (.p N (.int kc) c) (a.eval co))
  (h1:0≤l) (h2:l≤c) (h3:(L.bytes:Int)*c≤281474976710656) (h4:c≤9223372036854775807) :
  Good P o a w (aG Bw w0 ρ φ h w new (.sl new) [(new,some (.nds e J (List.replicate l.toNat Nd.z) none))]):=by
 obtain⟨i,z,hi,O,x,u,C,a3,a4⟩:=M.hi;have hu:=aY ht hk;have D:=run_make (P:=P) w t e i z hu hi O kl kc l c h1 h2 (by rw[u];exact h3) h4;refine Good.aH (v:=_) (w':=_) (by simp only[execOp,ho,bR hl,bR hc,Sem.run_bind,D,Result.andThen_ok];rfl) ?_;have hm:(madeCells z.cells (c.toNat*i.size)).size=c.toNat*i.size:=size_madeCells _ _;have A:i.size=2:=by rw[x,B]
 rw[hz]at C;have X:=JB C;have q:∀j (f:Bool),j<l.toNat→((madeCells z.cells (c.toNat*i.size)).toList.take (l.toNat*2))[j*2+f.toNat]? = some (if f then .slice none 0 0 else .map none):=fun j f Y=>by
  have hf:f.toNat<2:=by cases f <;> decide
  rw[List.getElem?_take,if_pos (by omega)];have Z:j*2+f.toNat<c.toNat*i.size:=by rw[A];omega
  have E:(madeCells z.cells (c.toNat*i.size)).toList[j*2+f.toNat]? = some (z.cells[(j*2+f.toNat) % z.cells.size]!):=by simp[madeCells,Z]
  rw[E,X];have:(j*2+f.toNat) % 2=f.toNat:=by omega
  show some ((#[Value.map none,.slice none 0 0])[(j*2+f.toNat) % 2]!)=_;rw[this];cases f <;> rfl
 refine cN m none new (.nds e J (List.replicate l.toNat Nd.z) none) (.slice (some ⟨w.heap.size,0,none⟩) l.toNat c.toNat) none (World.grownBy_alloc w _ none) (fun k e=>by cases e) (.inl hn) (fun _ k hk=>?_) (fun F' a1 hF a2=>?_) (by rw[bp];rfl) (fun _=>rfl) (fun F' a1 hF a2 I=>?_)
 ·simp only[dg,Option.some.injEq]at hk;exact .inl (by omega)
 ·refine⟨fun _ h=>h,fun _ _ _ e=>(by cases e),(madeCells z.cells (c.toNat*i.size)).toList.take (l.toNat*2),⟨?_,.inr ⟨w.heap.size,c.toNat,madeCells z.cells (c.toNat*i.size),?_,Nat.zero_le _,heap_alloc_new w _,?_,?_,?_,?_⟩⟩,fun j f Y=>?_,fun r f r' f' vr a5 b _ _ _ E J b1=>?_⟩
  ·simp only[List.length_take,Array.length_toList,hm,List.length_replicate];rw[A];omega
  ·simp
  ·simp;omega
  ·unfold maxLen;omega
  ·rw[hm,A]
  ·simp
  ·simp only[List.length_replicate]at Y;refine⟨_,q j f Y,?_,fun _=>⟨?_,fun k hk=>?_⟩,fun id e=>by cases e⟩
   ·cases f
    ·exact⟨_,rfl⟩
    ·exact⟨_,_,_,rfl⟩
   ·simp only[List.getElem_replicate];cases f
    ·exact⟨fun k hk=>by simp[dg]at hk,rfl,rfl⟩
    ·exact⟨fun k hk=>by simp[dg]at hk,World.ownsRow_nil _ 0 J 1⟩
   ·cases f <;> simp[dg]at hk
  ·have hr:r<l.toNat:=by have:=(List.getElem?_eq_some_iff.1 E).1;simp only[List.length_take]at this;cases f <;> simp at this <;> omega
   rw[q r f hr]at E;cases E;cases f <;> simp[dg]at b1
 ·simp only[V];exact⟨I,_,_,_,rfl⟩
theorem CZ(m:Mem Bw w0 ρ φ h w)(hn:ρ new=none){o:Oper}{a:Act}{t e:TypeId}{ti te:TI}(ht:aP P t ti)(hk:ti.k = .sl e)(a8:aP P e te)(a9:te.size=2)
  {xo yo:Operand} {id r:Nat} (Z:V (Fr (own φ h) Bw w) ρ (.sl id) (a.eval xo)) (hy:V (Fr (own φ h) Bw w) ρ (.sl r) (a.eval yo)) (ho:o.op = .call { callee:= .builtin .append,args:= #[xo,yo],argTypes:= #[t,t] })
  {X:TypeId} {p:List Nd} (hi:h id=some (.nds e X p none)) (hr:h r=some (.vrow 1 2 [.lit (.map none),.nils])) (hb:(p.length+1)*te.bytes≤140737488355328) (b9:p.length+1≤9223372036854775807) :
  Good P o a w (aG Bw w0 ρ φ h w new (.sl new) [(id,none),(new,some (.nds e X (p++[Nd.z]) none))]):=by
 obtain⟨i,z,ac,hz,x,C,bi,ax,bs⟩:=a8.hi;have hu:=aY ht hk;have L:i.size=2:=by rw[x,a9]
 obtain⟨v,q1,hs,_,cells,A,h4,h5⟩:=m.ob id _ hi;obtain⟨y,q2,g,t',arr,rfl,_,r1,r2,_,r4⟩:=m.ob r _ hr;simp only[V]at Z hy;obtain⟨Z,_⟩:=Z;obtain⟨hy,_⟩:=hy;rw[q1]at Z;rw[q2]at hy;have b3:=Option.some.inj Z;have b4:=Option.some.inj hy;obtain⟨aa,nn,cc,D⟩:∃aa nn cc,v = .slice aa nn cc:=by rcases A.2 with⟨e,_⟩ | ⟨g,cap,a1,e,_⟩ <;> exact⟨_,_,_,e⟩
 simp only[VL,V]at r4;obtain⟨⟨_,c0,rfl⟩,⟨_,c1,rfl⟩,_⟩:=r4;have M:∀j u,([.map none,.slice none 0 0]:QY)[j]? = some u→w.cell? ((⟨g,0,none⟩:Addr).add j)=some u:=fun j u hj=>by
  rw[cf,Nat.zero_add];simp only[World.cell?,r1];match j,hj with
  | 0,hj=>cases hj;exact c0
  | 1,hj=>cases hj;exact c1
 obtain⟨v',w',a2,h2,h3,h6⟩:=na (P:=P) (t:=t) (ty:=o.type) hu ac hz (by rw[ax,x]) (by omega) (v:=v) (n:=p.length) (xs:=cells) (by rw[L];exact A) (ad:=⟨g,0,none⟩) (len:=1) (c:=1) (news:=[.map none,.slice none 0 0])
  (by rw[L];rfl) M (fun u hu=>by simp at hu;rcases hu with rfl | rfl <;> rfl) (by unfold maxLen;omega) (by rw[C];exact hb)
 rw[L]at h2;obtain⟨bv,bx,c2,B⟩:∃aa nn cc,v' = .slice aa nn cc:=by rcases h2.2 with⟨e,_⟩ | ⟨g,cap,a1,e,_⟩ <;> exact⟨_,_,_,e⟩
 have N:∀q f,nt none q f:=fun _ _ _ _ _ e=>by cases e
 have O:∀k,φ id k→k<w.heap.size:=fun k hk=>m.lt id _ k hi rfl hk
 refine Good.aH (v:=v') (w':=w') ?_ ?_
 ·simp only[execOp,ho,resolve,invoke,builtin,Sem.run_bind,Sem.run_pure,Result.andThen_ok,List.map_toArray,List.map_cons,List.map_nil,←b3,←b4,a2]
 refine dW m (some id) new (.nds e X (p++[Nd.z]) none) v' (fun k=>φ id k∨dg v'=some k) v.ownBlock h3 (fun k hk=>⟨id,_,rfl,hi,rfl,hs k (by rw[cz D];exact hk)⟩) (.inl hn)
  (fun _ k hk=>?_) (fun _ k hk=>?_) (fun F' b5 hF b6=>?_) (by rw[tw];rfl) (fun _=>rfl) (fun F' b5 hF b6 a3=>by simp only[V];exact⟨a3,_,_,_,B⟩)
 ·rcases hk with hk | hk
  ·exact Nat.lt_of_lt_of_le (O k hk) h3.size
  ·rcases h2.2 with⟨e,_⟩ | ⟨g',cap,a1,e,_,hh,_⟩
   ·rw[e]at hk;simp[dg]at hk
   ·rw[e]at hk;simp only[dg,Option.some.injEq]at hk;subst hk;rcases Nat.lt_or_ge g' w'.heap.size with q | q
    ·exact q
    ·rw[Array.getElem?_eq_none q]at hh;cases hh
 ·rcases hk with hk | hk
  ·exact .inr ⟨id,_,rfl,hi,rfl,hk⟩
  ·rcases h6 k (by rw[←cz B];exact hk)with q | q
   ·exact .inl q
   ·exact .inr ⟨id,_,rfl,hi,rfl,hs k (by rw[cz D];exact q)⟩
 have E:(p++[Nd.z]).length=p.length+1:=by simp
 have c3:=A.1;refine⟨fun k hk=> .inr hk,fun _ _ _ e=>(by cases e),cells++[.map none,.slice none 0 0],by rw[E];exact h2,fun q f hq=>?_,fun q f q' f' Y a4 b b7 _ _ e1 X b1 b2=>?_⟩
 ·rw[E]at hq;rcases Nat.lt_or_ge q p.length with a5 | c4
  ·obtain⟨Y,p1,p2,p3,_⟩:=h4 q f a5;obtain⟨p4,p5⟩:=p3 (N q f);have hin:∀k,dg Y=some k→φ id k:=by cases f <;> exact p4.1
   have a6:∀k,dg Y=some k→w'.heap[k]? = w.heap[k]? :=fun k hk=>h3.block k (O k (hin k hk)) (fun e=>p5 k hk (by rw[cz D,←e]))
   refine⟨Y,by rw[List.getElem?_append_left (List.getElem?_eq_some_iff.1 p1).1];exact p1,p2,fun _=>⟨?_,fun k hk e=>?_⟩,fun j e=>by cases e⟩
   ·rw[List.getElem_append_left a5];cases f with
    | false=>exact⟨fun k hk=> .inl (hin k hk),p4.2.mono a6⟩
    | true=>exact⟨fun k hk=> .inl (hin k hk),fL a6 p4.2⟩
   ·rcases h6 k (by rw[←cz B];exact e)with q | q
    ·have:=O k (hin k hk);omega
    ·exact p5 k hk (by rw[cz D];exact q)
  ·obtain rfl:q=p.length:=by omega
   refine⟨if f then .slice none 0 0 else .map none,?_,?_,fun _=>⟨?_,fun k hk=>?_⟩,fun j e=>by cases e⟩
   ·rw[List.getElem?_append_right (by omega),show p.length*2+f.toNat - cells.length=f.toNat by omega];cases f <;> rfl
   ·cases f
    ·exact⟨_,rfl⟩
    ·exact⟨_,_,_,rfl⟩
   ·rw[List.getElem_append_right (by omega)];simp only[Nat.sub_self,List.getElem_cons_zero];cases f
    ·exact⟨fun k hk=>by simp[dg]at hk,rfl,rfl⟩
    ·exact⟨fun k hk=>by simp[dg]at hk,World.ownsRow_nil _ 0 X 1⟩
   ·cases f <;> simp[dg]at hk
 ·have I:∀q (f:Bool) v b,(cells++[Value.map none,.slice none 0 0])[q*2+f.toNat]? = some v→dg v=some b→cells[q*2+f.toNat]? = some v:=fun q f v b J a7=>by
   rcases Nat.lt_or_ge (q*2+f.toNat) cells.length with hl | hl
   ·rwa [List.getElem?_append_left hl]at J
   ·rw[List.getElem?_append_right hl]at J;generalize q*2+f.toNat - cells.length=d at J;match d,J with
    | 0,J=>cases J;simp[dg]at a7
    | 1,J=>cases J;simp[dg]at a7
  exact h5 q f q' f' Y a4 b b7 (N _ _) (N _ _) (I q f Y b e1 b1) (I q' f' a4 b X b2) b1 b2
/-! ### Maps b8 c5 be none -/
theorem JG(m:Mem Bw w0 ρ φ h w){id:Nat}{b:Bool}{c:Qq}(hi:h id=some (.mpq b c)){v:Value}(e:V (Fr (own φ h) Bw w) ρ (.mp id) v):Fo w b c v:=by
 obtain⟨u,f,_,_,j⟩:=m.ob id _ hi;simp only[V]at e;rw[e.1]at f;cases f;exact j
theorem Ek(m:Mem Bw w0 ρ φ h w){o:Oper}{a:Act}{t C D:TypeId}{ti E I:TI}(ht:aP P t ti)(hk:ti.k = .mp C D)(c:aP P C I)(e:I.k = .int .i32)(f:aP P D E)(hT:E.T=some (.int .i64))
  {J q:Operand} {j:Bool} (L:o.op = .lookup t J q j) {id:Nat} {b:Bool} {M:Qq} (hi:h id=some (.mpq b M)) (X:V (Fr (own φ h) Bw w) ρ (.mp id) (a.eval J)) {u:Bool} {i:Int} (v:V (Fr (own φ h) Bw w) ρ (.p u (.int .i32) i) (a.eval q)) :
  Good P o a w (aG Bw w0 ρ φ h w new (As .i64 j (aU (α:=Int) (.int .i32) M i)) []):=by
 have N:a.eval q=aO (.int .i32) i:=nu rfl rfl v;have O:=JG m hi X;cases b with
 | false =>
  obtain⟨x,rfl⟩:=O;exact look_nil m ht hk c e f hT L x N
 | true =>
  obtain⟨r,Y,Z,x,hb,_,z,A,B⟩:=O;exact FY m ht hk c e f hT L x N hb z A B
theorem Bc(d:Nat){t k e:TypeId}(h:P.underlying t=some (.map k e))(r:QJ):(Op.equalIn (d+1) t (.map r) (.map none)).run P w = .ok r.isNone w:=by
 cases r <;> simp[Op.equalIn,run_underlying h]
theorem If(m:Mem Bw w0 ρ φ h w){o:Oper}{a:Act}{t x A B:TypeId}{ti:TI}(ht:aP P t ti)(hk:ti.k = .mp x A){op:BinOp}{xo yo:Operand}(C:o.op = .binOp op t xo yo B){id:Nat}{b:Bool}{D:Qq}
  (hi:h id=some (.mpq b D)) (E:V (Fr (own φ h) Bw w) ρ (.mp id) (a.eval xo)) (j:V (Fr (own φ h) Bw w) ρ (.lit (.map none)) (a.eval yo)) {r:ag} (I:HI op (!b)=some r):Good P o a w (aG Bw w0 ρ φ h w new r []):=by
 have p:=JG m hi E;simp only[V]at j;obtain⟨d,J,c⟩:=ht.hu;rw[hk]at c;simp only[UK]at c;subst c;obtain⟨q,L,f⟩:∃q:QJ,a.eval xo = .map q∧q.isNone = !b:=by
  cases b with
  | false=>exact⟨none,p.1,rfl⟩
  | true=>obtain⟨r,_,_,e,_⟩:=p;exact⟨some r,e,rfl⟩
 obtain⟨z,M,g2⟩:=sv (P:=P) (w:=w) (F:=Fr (own φ h) Bw w) (ρ:=ρ) (xo:=xo) (yo:=yo) I (bJ (by intro N e;cases e) (by intro e;cases e)) (u:= .map q) (v:= .map none) (t:=t) (by
  unfold Op.equal Op.maxDepth;rw[←f];exact Bc 9999 J q) ⟨rfl,rfl⟩
 exact Good.aH (v:=z) (w':=w) (by simp only[execOp,C,L,j];rw[Sem.run_bind,M];rfl) (aG.pure m g2)
theorem aG.as{x:ag}{u:hD}{v:Value}{w':World}(E:aG Bw w0 ρ φ h w new x u v w'){i:Nat}{o j:Obj}(hi:apply u h i=some o)(hl:o.live=true)(z:j.live=true)(I:∀F ρ S w u,OR F ρ S w o u→OR F ρ S w j u):
  aG Bw w0 ρ φ h w new x (u++[(i,some j)]) v w':=by
 obtain⟨B,C,J,L,M,N,O⟩:=E;obtain⟨X,D⟩:=J.as hi hl z I;have e:apply (u++[(i,some j)]) h=bq (apply u h) i (some j):=by rw[eL];rfl
 exact⟨B,C,by rw[e];exact X,by rw[e];exact fun β a v Y=>D _ _ _ (L _ _ _ Y),M,N,by rw[e];exact V.mono D (fun _ _ h=>h) O⟩
theorem KA{F:Bool→Addr→Value→Prop}{ρ:Nat→QW}{S:Nat→Prop}{w:World}{f:Qq}{u:Value}(h:OR F ρ S w (.mpq true f) u):OR F ρ S w (.mpo (.int .i32) (.int .i64) f) u:=by
 obtain⟨v,_,r,c,z,rfl,hb,hB,j,e,p⟩:=h;refine⟨r,c,z,rfl,v r rfl,hb,⟨rfl,hB⟩,j,p,fun i hi=>?_⟩;have hl:c.size=f.length:=by have:=congrArg List.length e;simpa using this
 have q:c[i]? = some c[i]:=Array.getElem?_eq_getElem (by omega);refine⟨c[i],q,?_⟩;have:=congrArg (fun l=>l[i]?) e;simp only[List.getElem?_map,Array.getElem?_toList,q,List.getElem?_eq_getElem hi,Option.map_some,Option.some.injEq]at this;rw[this];exact⟨rfl,rfl,fun _=>rfl,fun h=>by cases h⟩
theorem KL{F:Bool→Addr→Value→Prop}{ρ:Nat→QW}{S:Nat→Prop}{w:World}{c:Qq}{u:Value}(h:OR F ρ S w (.mpo (.int .i32) (.int .i64) c) u):OR F ρ S w (.mpq true c) u:=by
 obtain⟨j,f⟩:=Bx h;have p:=f;obtain⟨r,_,_,e,_⟩:=p;exact⟨j,⟨_,e⟩,f⟩
theorem Hq(m:Mem Bw w0 ρ φ h w){o:Oper}{a:Act}{t e M:TypeId}{ti I:TI}(ht:aP P t ti)(hk:ti.k = .mp e M)(f:aP P e I)(j:I.k = .int .i32)
  {J q u:Operand} (N:o.op = .mapUpdate t J q u) {id:Nat} {b:Bool} {c:Qq} (hi:h id=some (.mpq b c)) (O:V (Fr (own φ h) Bw w) ρ (.mp id) (a.eval J)) {β z:Bool} {i n:Int} (B:V (Fr (own φ h) Bw w) ρ (.p z (.int .i32) i) (a.eval q))
  (X:V (Fr (own φ h) Bw w) ρ (.p β (.int .i64) n) (a.eval u)) (hb:b=true) :
  Good P o a w (aG Bw w0 ρ φ h w new .unk [(id,some (.mpo (.int .i32) (.int .i64) c)),(id,some (.mpo (.int .i32) (.int .i64) (cj (α:=Int) (.int .i32) c i n))),(id,some (.mpq true (cj (α:=Int) (.int .i32) c i n)))]):=by
 subst hb;obtain⟨Y,L⟩:=m.as hi rfl rfl (fun _ _ _ _ _=>KA);have C:fC P e (.int .i32):=fC.Af f (by rw[j];rfl);have Z:a.eval q=aO (.int .i32) i:=nu rfl rfl B;have D:V (Fr (own φ (bq h id (some (.mpo (.int .i32) (.int .i64) c)))) Bw w) ρ (.p false (.int .i64) n) (a.eval u):=by rw[bR X];exact dC _ _ _
 have hg:=lY (new:=new) Y ht hk C (A:= .int .i64) (.inl N) (us:=[]) (ao _ _ _) (ao _ _ _) (V.mono L (fun _ _ h=>h) O) Z D rfl rfl (x:=n) rfl;refine fun K Q E=>hg K Q fun v w' hp=>E v w' ?_
 exact aG.as (aG.after (u1:=[(id,some (.mpo (.int .i32) (.int .i64) c))]) rfl L hp) (o:= .mpo (.int .i32) (.int .i64) (cj (α:=Int) (.int .i32) c i n)) (by rw[eL];exact ao _ _ _) rfl rfl (fun _ _ _ _ _=>KL)
end
def Br(tb:bP)(t:TypeId):Option (TypeId×TI) :=
 match tb.find t with
 | some ti=>match ti.k with
  | .sl e=>match tb.find e with
   | some c=>some (e,c)
   | none=>none
  | _=>none
 | none=>none
theorem iB{P:Program}{tb:bP}(c:bV P tb){t e:TypeId}{j:TI}(h:Br tb t=some (e,j)):∃ti,aP P t ti∧ti.k = .sl e∧aP P e j:=by
 unfold Br at h;split at h
 ·rename_i ti ht;split at h
  ·rename_i q hk;split at h
   ·rename_i p f;cases h;exact⟨ti,c.find ht,hk,c.find f⟩
   ·cases h
  ·cases h
 ·cases h
def IG(tb:bP)(t:TypeId)(x:ag)(h:Nat→Qz):Qk :=
 match x with
 | .adr id i 2 off=>match h id with
  | some (.nds _ _ _ (some (k,f,j)))=>match tb.find t with
   | some ti=>if ti.k.agg=false∧off=f.toNat then some (zX f j,[],i=k)else none
   | none=>none
  | _=>none
 | _=>none
def K7:ag→Option (Bool×Nat)
 | .mp r=>some (false,r)
 | .sl r=>some (true,r)
 | _=>none
def Mm(c:Option (Nat×Bool×Nat))(i:Nat)(f:Bool)(n:Nat):Prop :=
 match c with
 | none=>i<n
 | some (k,g,_)=>k=i∧g=f
def Eg(tb:bP)(t:TypeId)(x y:ag)(h:Nat→Qz):Qk :=
 match x with
 | .adr id i 2 off=>match h id with
  | some (.nds e j c p)=>match tb.find t with
   | some ti=>match K7 y with
    | some (f,r)=>if ti.size=1∧off=f.toNat then some (.unk,[(id,some (.nds e j c (some (i,f,r))))],Mm p i f c.length)else none
    | none=>none
   | none=>none
  | _=>none
 | _=>none
def Ew(tb:bP)(t:TypeId)(x i:ag)(h:Nat→Qz):Qk :=
 match x with
 | .sl id=>match h id with
  | some (.nds _ _ c _)=>match i with
   | .p _ (.int _) n=>match Br tb t with
    | some (_,e)=>if e.size=2 then some (.adr id (show Int from n).toNat 2 0,[],0≤(show Int from n)∧(show Int from n)<(c.length:Int))else none
    | none=>none
   | _=>none
  | _=>none
 | _=>none
def LA(tb:bP)(op:BinOp)(t:TypeId)(x y:ag)(h:Nat→Qz):Qk :=
 match x,y with
 | .mp id,.lit (.map none)=>match h id with
  | some (.mpq b _)=>match tb.find t with
   | some ti=>match ti.k with
    | .mp _ _=>match HI op (!b)with
     | some r=>some (r,[],True)
     | none=>none
    | _=>none
   | none=>none
  | _=>none
 | _,_=>none
def Jj(tb:bP)(t:TypeId)(x k:ag)(c:Bool)(h:Nat→Qz):Qk :=
 match x,k with
 | .mp id,.p _ (.int .i32) i=>match h id with
  | some (.mpq _ e)=>match tb.find t with
   | some ti=>match ti.k with
    | .mp f j=>match tb.find f,tb.find j with
     | some q,some u=>match q.k with
      | .int .i32=>if u.T=some (.int .i64)then some (As .i64 c (aU (α:=Int) (.int .i32) e i),[],True)else none
      | _=>none
     | _,_=>none
    | _=>none
   | none=>none
  | _=>none
 | _,_=>none
def Mr(tb:bP)(t:TypeId)(x k y:ag)(h:Nat→Qz):Qk :=
 match x with
 | .mp id=>match k,y with
  | .p _ (.int .i32) i,.p _ (.int .i64) n=>match h id with
   | some (.mpq b c)=>match tb.find t with
    | some ti=>match ti.k with
     | .mp e _=>match tb.find e with
      | some f=>match f.k with
       | .int .i32=>some (.unk,[(id,some (.mpo (.int .i32) (.int .i64) c)),(id,some (.mpo (.int .i32) (.int .i64) (cj (α:=Int) (.int .i32) c i n))),(id,some (.mpq true (cj (α:=Int) (.int .i32) c i n)))],b=true)
       | _=>none
      | none=>none
     | _=>none
    | none=>none
   | _=>none
  | _,_=>none
 | _=>none
def JJ(tb:bP)(c:TI):Option TypeId :=
 match c.z with
 | [.lit (.map none),.nils]=>if c.size=2 then(match c.k with
  | .st [_,(1,e)]=>match tb.find e with
   | some ti=>match ti.k with
    | .sl f=>some f
    | _=>none
   | none=>none
  | _=>none)else none
 | _=>none
theorem Co{tb:bP}{c:TI}{e:TypeId}(h:JJ tb c=some e):c.z=[.lit (.map none),.nils]∧c.size=2:=by
 unfold JJ at h;split at h
 ·rename_i hz;split at h
  ·rename_i f;exact⟨hz,f⟩
  ·cases h
 ·cases h
def K9(fl:Bool)(tb:bP)(new:Nat)(t:TypeId)(l c:ag):Qk :=
 match fl with
 | true=>match Br tb t with
  | some (e,f)=>match JJ tb f with
   | some j=>match l,c with
    | .p _ (.int _) n,.p _ (.int _) k=>some (.sl new,[(new,some (.nds e j (List.replicate (show Int from n).toNat Nd.z) none))],0≤(show Int from n)∧(show Int from n)≤k∧(f.bytes:Int)*k≤281474976710656∧(show Int from k)≤9223372036854775807)
    | _,_=>none
   | none=>none
  | none=>none
 | false=>none
def Lm(tb:bP)(t:TypeId)(x:ag)(h:Nat→Qz):Qk :=
 match x with
 | .sl id=>match h id with
  | some (.nds _ _ c _)=>match Br tb t with
   | some _=>some (.p false (.int .i64) (c.length:Int),[],True)
   | none=>none
  | _=>none
 | _=>none
def isNode:List ag→Bool
 | [.lit (.map none),.nils]=>true
 | _=>false
theorem G7{c:List ag}(h:isNode c=true):c=[.lit (.map none),.nils]:=by
 unfold isNode at h;split at h
 ·rfl
 ·cases h
def Lr(tb:bP)(new:Nat)(t u:TypeId)(x y:ag)(h:Nat→Qz):Qk :=
 match x,y with
 | .sl id,.sl r=>match h id,h r with
  | some (.nds e j c none),some (.vrow 1 2 p)=>if isNode p=true∧u=t then(match Br tb t with
   | some (q,f)=>if q=e∧f.size=2 then some (.sl new,[(id,none),(new,some (.nds e j (c++[Nd.z]) none))],(c.length+1)*f.bytes≤140737488355328∧c.length+1≤9223372036854775807)else none
   | none=>none)else none
  | _,_=>none
 | _,_=>none
def qz(tb:bP)(new:Nat)(fl:Bool)(op:Op)(s:Nat→ag)(h:Nat→Qz):Qk :=
 match op with
 | .load t x=>IG tb t (ev s x) h
 | .store t x y=>Eg tb t (ev s x) (ev s y) h
 | .indexAddr t x i=>Ew tb t (ev s x) (ev s i) h
 | .binOp op t x y _=>LA tb op t (ev s x) (ev s y) h
 | .lookup t x k e=>Jj tb t (ev s x) (ev s k) e h
 | .mapUpdate t x k y=>Mr tb t (ev s x) (ev s k) (ev s y) h
 | .makeSlice t l c=>K9 fl tb new t (ev s l) (ev s c)
 | .call c=>match c.callee with
  | .builtin .len=>match c.args.toList,c.argTypes.toList with
   | [x],[t]=>Lm tb t (ev s x) h
   | _,_=>none
  | .builtin .append=>match c.args.toList,c.argTypes.toList with
   | [x,y],[t,u]=>Lr tb new t u (ev s x) (ev s y) h
   | _,_=>none
  | _=>none
 | _=>none
section
variable{P:Program}{tb:bP}{Bw:Nat→Prop}{w0:cu P}{ρ:Nat→QW}{φ:Nat→Nat→Prop}{h:Nat→Qz}{w:World}{new:Nat}{n:NS}{s:Nat→ag}{a:Act}
theorem GV(z:bV P tb)(m:Mem Bw w0 ρ φ h w)(B:bT n (Fr (own φ h) Bw w) ρ s a)(hn:ρ new=none){o:Oper}{fl:Bool}{x:ag}{u:hD}{c:Prop}
  (hd:qz tb new fl o.op s h=some (x,u,c)) (L:c):Good P o a w (aG Bw w0 ρ φ h w new x u):=by
 unfold qz at hd;split at hd
 ·-- load
  rename_i t C D;have A:=aX B C;unfold IG at hd;split at hd
  ·rename_i id i off ex;rw[ex]at A;split at hd
   ·rename_i e e2 ns k f j v;split at hd
    ·rename_i ti ht;split at hd
     ·rename_i hq;obtain⟨I,rfl⟩:=hq;cases hd;exact AB m (z.find ht) I A D v L
     ·cases hd
    ·cases hd
   ·cases hd
  ·cases hd
 ·-- store
  rename_i t C N D;have A:=aX B C;have J:=aX B N;unfold Eg at hd;split at hd
  ·rename_i id i off ex;rw[ex]at A;split at hd
   ·rename_i e e2 ns hole v;split at hd
    ·rename_i ti ht;split at hd
     ·rename_i f r hp;split at hd
      ·rename_i hq;obtain⟨I,rfl⟩:=hq;cases hd;have a3:V (Fr (own φ h) Bw w) ρ (zX f r) (a.eval N):=by
        unfold K7 at hp;split at hp
        ·rename_i e;cases hp;rw[e]at J;exact J
        ·rename_i e;cases hp;rw[e]at J;exact J
        ·cases hp
       obtain⟨_,_,_,a6,_⟩:=m.ob id _ v;cases hole with
       | none=>exact qG m (z.find ht) I A a3 D v L (fun k g j e=>by cases e)
       | some p =>
        obtain⟨k,g,j⟩:=p;obtain⟨rfl,rfl⟩:=L;exact qG m (z.find ht) I A a3 D v (a6 _ _ _ rfl) (fun k g j e=>by cases e;exact⟨rfl,rfl⟩)
      ·cases hd
     ·cases hd
    ·cases hd
   ·cases hd
  ·cases hd
 ·-- index
  rename_i t C io D;have A:=aX B C;have hi:=aX B io;unfold Ew at hd;split at hd
  ·rename_i id ex;rw[ex]at A;split at hd
   ·rename_i e e2 ns hole v;split at hd
    ·rename_i β k n ei;rw[ei]at hi;split at hd
     ·rename_i e' te E;split at hd
      ·rename_i O;cases hd;obtain⟨ti,I,X,h3⟩:=iB z E;exact zi m I X h3 O A v hi D L.1 L.2
      ·cases hd
     ·cases hd
    ·cases hd
   ·cases hd
  ·cases hd
 ·-- binOp
  rename_i op t C N t' D;have A:=aX B C;have J:=aX B N;unfold LA at hd;split at hd
  ·rename_i id ex ey;rw[ex]at A;rw[ey]at J;split at hd
   ·rename_i b kv v;split at hd
    ·rename_i ti ht;split at hd
     ·rename_i kt et hk;split at hd
      ·rename_i r hr;cases hd;exact If m (z.find ht) hk D v A J hr
      ·cases hd
     ·cases hd
    ·cases hd
   ·cases hd
  ·cases hd
 ·-- lookup
  rename_i t C ko ac D;have A:=aX B C;have hk:=aX B ko;unfold Jj at hd;split at hd
  ·rename_i id β i ex ek;rw[ex]at A;rw[ek]at hk;split at hd
   ·rename_i b kv v;split at hd
    ·rename_i ti ht;split at hd
     ·rename_i kt et Y;split at hd
      ·rename_i tk te Z a7;split at hd
       ·rename_i M;split at hd
        ·rename_i hT;cases hd;exact Ek m (z.find ht) Y (z.find Z) M (z.find a7) hT D v A hk
        ·cases hd
       ·cases hd
      ·cases hd
     ·cases hd
    ·cases hd
   ·cases hd
  ·cases hd
 ·-- mapUpdate
  rename_i t C ko N D;have A:=aX B C;have hk:=aX B ko;have J:=aX B N;unfold Mr at hd;split at hd
  ·rename_i id ex;rw[ex]at A;split at hd
   ·rename_i β i a8 n ek ey;rw[ek]at hk;rw[ey]at J;split at hd
    ·rename_i b kv v;split at hd
     ·rename_i ti ht;split at hd
      ·rename_i kt et Y;split at hd
       ·rename_i tk Z;split at hd
        ·rename_i M;cases hd;exact Hq m (z.find ht) Y (z.find Z) M D v A hk J L
        ·cases hd
       ·cases hd
      ·cases hd
     ·cases hd
    ·cases hd
   ·cases hd
  ·cases hd
 ·-- makeSlice
  rename_i t lo co D;have hl:=aX B lo;have a4:=aX B co;unfold K9 at hd;split at hd
  ·split at hd
   ·rename_i e te E;split at hd
    ·rename_i e2 a9;split at hd
     ·rename_i β k n a8 k' n' el ec;rw[el]at hl;rw[ec]at a4;cases hd;obtain⟨ti,I,X,h3⟩:=iB z E;obtain⟨h4,h5⟩:=Co a9;exact AX m hn I X h3 h4 h5 D hl a4 L.1 L.2.1 L.2.2.1 L.2.2.2
     ·cases hd
    ·cases hd
   ·cases hd
  ·cases hd
 ·-- call
  rename_i c0 D;obtain⟨callee,args,a5⟩:=c0;simp only at hd;split at hd
  ·split at hd
   ·rename_i C t ea et;have a1:args = #[C]:=Array.ext' ea;have a2:a5 = #[t]:=Array.ext' et;subst a1 a2;have A:=aX B C;unfold Lm at hd;split at hd
    ·rename_i id ex;rw[ex]at A;split at hd
     ·rename_i e e2 ns hole v;split at hd
      ·rename_i q E;obtain⟨e',te⟩:=q;cases hd;obtain⟨ti,I,X,h3⟩:=iB z E;exact CO m I X A v D
      ·cases hd
     ·cases hd
    ·cases hd
   ·cases hd
  ·split at hd
   ·rename_i C N t u' ea et;have a1:args = #[C,N]:=Array.ext' ea;have a2:a5 = #[t,u']:=Array.ext' et;subst a1 a2;have A:=aX B C;have J:=aX B N;unfold Lr at hd;split at hd
    ·rename_i id r ex ey;rw[ex]at A;rw[ey]at J;split at hd
     ·rename_i e e2 ns cs v hr;split at hd
      ·rename_i hq;obtain⟨I,rfl⟩:=hq;obtain rfl:=G7 I;split at hd
       ·rename_i e' te E;split at hd
        ·rename_i aa;obtain⟨rfl,O⟩:=aa;cases hd;obtain⟨ti,I,X,h3⟩:=iB z E;exact CZ m hn I X h3 O A J D v hr L.1 L.2
        ·cases hd
       ·cases hd
      ·cases hd
     ·cases hd
    ·cases hd
   ·cases hd
  ·cases hd
 ·cases hd
theorem E6{s I:Nat→ag}{h h':Nat→Qz}{op:Op}{fl:Bool}(q:∀x∈op.operands.toList,ev s x=ev I x)(key:∀x∈op.operands.toList,(¬((∃x,op = .move x)∨(∃x,op = .assign x)∨(∃x,op = .nilCheck x)∨∃t x f,op = .fieldAddr t x f))→∀i∈ids (ev s x),h i=h' i):
  qz tb new fl op s h=qz tb new fl op I h':=by
 have v:∀x∈op.operands.toList,(¬((∃x,op = .move x)∨(∃x,op = .assign x)∨(∃x,op = .nilCheck x)∨∃t x f,op = .fieldAddr t x f))→∀y,ev s x=y→∀i∈ids y,h i=h' i:=fun x j C y e i hi=>key x j C i (by rw[e];exact hi)
 cases op with
 | load t x =>
  have j:=v x (by simp[Op.operands]) (by rintro(⟨_,e⟩ | ⟨_,e⟩ | ⟨_,e⟩ | ⟨_,_,_,e⟩) <;> cases e);simp only[qz,←q x (by simp[Op.operands])];unfold IG;split
  ·rename_i id i off ex;rw[j _ ex id (by simp[ids])]
  ·rfl
 | store t x y =>
  have j:=v x (by simp[Op.operands]) (by rintro(⟨_,e⟩ | ⟨_,e⟩ | ⟨_,e⟩ | ⟨_,_,_,e⟩) <;> cases e);simp only[qz,←q x (by simp[Op.operands]),←q y (by simp[Op.operands])];unfold Eg;split
  ·rename_i id i off ex;rw[j _ ex id (by simp[ids])]
  ·rfl
 | indexAddr t x i =>
  have j:=v x (by simp[Op.operands]) (by rintro(⟨_,e⟩ | ⟨_,e⟩ | ⟨_,e⟩ | ⟨_,_,_,e⟩) <;> cases e);simp only[qz,←q x (by simp[Op.operands]),←q i (by simp[Op.operands])];unfold Ew;split
  ·rename_i id ex;rw[j _ ex id (by simp[ids])]
  ·rfl
 | binOp o t x y L =>
  have j:=v x (by simp[Op.operands]) (by rintro(⟨_,e⟩ | ⟨_,e⟩ | ⟨_,e⟩ | ⟨_,_,_,e⟩) <;> cases e);simp only[qz,←q x (by simp[Op.operands]),←q y (by simp[Op.operands])];unfold LA;split
  ·rename_i id ex D;rw[j _ ex id (by simp[ids])]
  ·rfl
 | lookup t x k J =>
  have j:=v x (by simp[Op.operands]) (by rintro(⟨_,e⟩ | ⟨_,e⟩ | ⟨_,e⟩ | ⟨_,_,_,e⟩) <;> cases e);simp only[qz,←q x (by simp[Op.operands]),←q k (by simp[Op.operands])];unfold Jj;split
  ·rename_i id β i ex D;rw[j _ ex id (by simp[ids])]
  ·rfl
 | mapUpdate t x k y =>
  have j:=v x (by simp[Op.operands]) (by rintro(⟨_,e⟩ | ⟨_,e⟩ | ⟨_,e⟩ | ⟨_,_,_,e⟩) <;> cases e);simp only[qz,←q x (by simp[Op.operands]),←q k (by simp[Op.operands]),←q y (by simp[Op.operands])];unfold Mr;split
  ·rename_i id ex;rw[j _ ex id (by simp[ids])]
  ·rfl
 | makeSlice t l c=>simp only[qz,q l (by simp[Op.operands]),q c (by simp[Op.operands])]
 | call c =>
  obtain⟨callee,args,E⟩:=c;have p:∀x∈args.toList,x∈(Op.call { callee,args,argTypes:=E }).operands.toList:=fun x j=>by simp only[Op.operands,Call.operands,Array.toList_append,List.mem_append];exact .inr j
  have j:∀x∈args.toList,∀y,ev s x=y→∀i∈ids y,h i=h' i:=fun x j=>v x (p x j) (by rintro(⟨_,e⟩ | ⟨_,e⟩ | ⟨_,e⟩ | ⟨_,_,_,e⟩) <;> cases e)
  simp only[qz];split
  ·split
   ·rename_i x t B _;have z:x∈args.toList:=by rw[B];simp
    rw[←q x (p x z)];unfold Lm;split
    ·rename_i id ex;rw[j x z _ ex id (by simp[ids])]
    ·rfl
   ·rfl
  ·split
   ·rename_i x y t u B _;have z:x∈args.toList:=by rw[B];simp
    have A:y∈args.toList:=by rw[B];simp
    rw[←q x (p x z),←q y (p y A)];unfold Lr;split
    ·rename_i id r ex D;rw[j x z _ ex id (by simp[ids]),j y A _ D r (by simp[ids])]
    ·rfl
   ·rfl
  ·rfl
 | _=>rfl
end
end Go.Tv
