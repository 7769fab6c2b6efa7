import Derived.Test.YtbedjpdfkmfplaaGreatDoorTvL
import Derived.Test.YtbedjpdfkmfplaaGreatDoorTvKlm
namespace Go.Tv
open Go Go.RowKit
section
variable{P:Program}{tb:bQ}{Bw:Nat→Prop}{w0:cE P}{ρ:Nat→QW}{φ:Nat→Nat→Prop}{h:Nat→Qz}{w:World}{new:Nat}
def z7:Bool→Nat→ag
 | false,j=> .mp j
 | true,j=> .sl j
theorem FU{F:Bool→Addr→Value→Prop}{f:Bool}{j:Nat}{v:Value}:V F ρ (z7 f j) v↔ρ j=some v∧Bt f v:=by
 cases f <;> simp only[z7,V,Bt]
theorem Bt.one{f:Bool}{v:Value}(h:Bt f v):v.oneCell'=true:=by
 cases f with
 | false=>obtain⟨_,rfl⟩:=h;rfl
 | true=>obtain⟨_,_,_,rfl⟩:=h;rfl
theorem FL(m:Mem Bw w0 ρ φ h w){id:Nat}{e z:TypeId}{f:List Nd}{A:Option (Nat×Bool×Nat)}(hi:h id=some (.nds e z f A)){v:Value}(j:V (Fr (own φ h) Bw w) ρ (.sl id) v):
  (v = .slice none 0 0∧f.length=0)∨∃g cap,v = .slice (some ⟨g,0,none⟩) f.length cap∧f.length≤cap:=by
 obtain⟨u,q,_,_,cells,B,_⟩:=m.ob id _ hi;simp only[V]at j;rw[j.1]at q;cases q;rcases B.2 with⟨rfl,hn⟩ | ⟨g,cap,C,rfl,_,_,hn,_⟩
 ·exact .inl ⟨rfl,hn⟩
 ·exact .inr ⟨g,cap,rfl,hn⟩
theorem Cc(m:Mem Bw w0 ρ φ h w){o:Oper}{a:Act}{t:TypeId}{ti:TI}(ht:aO P t ti){e:TypeId}(hk:ti.k = .sl e){j:Operand}{id:Nat}{q u:TypeId}{f:List Nd}{hole:Option (Nat×Bool×Nat)}(z:V (Fr (own φ h) Bw w) ρ (.sl id) (a.eval j))
  (hb:h id=some (.nds q u f hole)) (A:o.op = .call { callee:= .builtin .len,args:= #[j],argTypes:= #[t] }):Good P o a w (aG Bw w0 ρ φ h w new (.p false (.int .i64) (f.length:Int)) []):=by
 have hu:=aX ht hk;refine Good.aH (v:= .int .i64 f.length) (w':=w) ?_ (aG.pure m (dM _ _ _));simp only[execOp,A,resolve,invoke,builtin,Sem.run_bind,Sem.run_pure,Result.andThen_ok,List.map_toArray,List.map_cons,List.map_nil];rcases FL m hb z with⟨e,hn⟩ | ⟨g,cap,e,_⟩
 ·rw[e,hn];simp[Builtin.len_,run_underlying hu,goInt]
 ·rw[e];simp[Builtin.len_,run_underlying hu,goInt]
theorem zm(m:Mem Bw w0 ρ φ h w){o:Oper}{a:Act}{t e:TypeId}{ti f:TI}(ht:aO P t ti)(hk:ti.k = .sl e)(j:aO P e f)(B:f.size=2){q io:Operand}{id:Nat}{C D:TypeId}{u:List Nd}{hole:Option (Nat×Bool×Nat)}(z:V (Fr (own φ h) Bw w) ρ (.sl id) (a.eval q))
  (hb:h id=some (.nds C D u hole)) {β:Bool} {k:IntKind} {i:Int} (hi:V (Fr (own φ h) Bw w) ρ (.p β (.int k) i) (a.eval io)) (E:o.op = .indexAddr t q io) (I:0≤i) (hn:i<u.length) :
  Good P o a w (aG Bw w0 ρ φ h w new (.adr id i.toNat 2 0) []):=by
 have hu:=aX ht hk;have J:=bR hi;rcases FL m hb z with⟨_,h'⟩ | ⟨g,cap,L,A⟩
 ·omega
 simp only[V]at z;refine Good.aH (v:= .pointer (some ((⟨g,0,none⟩:Addr).add (i.toNat*f.size)))) (w':=w) ?_ (aG.pure m ?_)
 ·simp[execOp,E,Instr.indexAt,asIntOf,J,L,run_underlying hu,run_sizeOf j,I,hn]
 ·simp_all [V,cu]
theorem zT(m:Mem Bw w0 ρ φ h w){id i off:Nat}{e L:TypeId}{A:List Nd}{hole:Option (Nat×Bool×Nat)}(hb:h id=some (.nds e L A hole)){v:Value}(M:V (Fr (own φ h) Bw w) ρ (.adr id i 2 off) v)(hi:i<A.length):
  ∃g cap q,v = .pointer (some ⟨g,i*2+off,none⟩)∧ρ id=some (.slice (some ⟨g,0,none⟩) A.length cap)∧φ id g∧w.heap[g]? = some (.cells q e (0,0))∧A.length≤cap∧cap≤maxLen∧q.size=cap*2 ∧
   (∀i f (h:i<A.length),∃v,(q.toList.take (A.length*2))[i*2+f.toNat]? = some v∧Bt f v∧(nJ hole i f→Ao (φ id) w L v f A[i]∧∀k,dH v=some k→k≠g)∧∀j,hole=some (i,f,j)→ρ j=some v) ∧
   ∀i f j g N O b,¬(i=j∧f=g)→nJ hole i f→nJ hole j g→(q.toList.take (A.length*2))[i*2+f.toNat]? = some N→(q.toList.take (A.length*2))[j*2+g.toNat]? = some O→dH N=some b→dH O≠some b:=by
 obtain⟨u,Y,Z,_,cells,h3,h4,h5⟩:=m.ob id _ hb;simp only[V]at M;obtain⟨g,hg,he⟩:=M;rcases h3.2 with⟨rfl,hn⟩ | ⟨I,cap,q,rfl,_,B,C,D,E,z⟩
 ·omega
 have J:I=g:=by simp_all
 subst J;refine⟨I,cap,q,he,Y,Z I rfl,B,C,D,E,?_,?_⟩
 ·rw[z];intro r f hr;obtain⟨v,c1,c2,X,c4⟩:=h4 r f hr;exact⟨v,c1,c2,fun s=>⟨(X s).1,fun k hk e=>(X s).2 k hk (by rw[e];rfl)⟩,c4⟩
 ·rw[z];exact h5
theorem Ax(m:Mem Bw w0 ρ φ h w){o:Oper}{a:Act}{t:TypeId}{ti:TI}(ht:aO P t ti)(hk:ti.k.agg=false){E:Operand}{id i k j:Nat}{f:Bool}(J:V (Fr (own φ h) Bw w) ρ (.adr id i 2 f.toNat) (a.eval E))(L:o.op = .load t E)
  {e M:TypeId} {N:List Nd} (hb:h id=some (.nds e M N (some (k,f,j)))) (B:i=k) :
  Good P o a w (aG Bw w0 ρ φ h w new (z7 f j) []):=by
 subst B;obtain⟨u,_,_,C,_⟩:=m.ob id _ hb;have hi:=C i f j rfl;obtain⟨g,cap,O,X,q1,_,q,D,_,I,Y,_⟩:=zT m hb J hi;obtain⟨v,A,Z,_,c4⟩:=Y i f hi;have z:w.cell? ⟨g,i*2+f.toNat,none⟩=some v:=by
  rw[List.getElem?_take]at A;split at A
  ·simp only[World.cell?,q];rw[←Array.getElem?_toList];exact A
  ·cases A
 refine Good.aH (v:=v) (w':=w) ?_ (aG.pure m (FU.2 ⟨c4 j rfl,Z⟩));simp only[execOp,L,Instr.loadAt,X,Instr.sureAddr,Sem.run_bind,Sem.run_pure,Result.andThen_ok];unfold loadVar;rw[Sem.run_bind,lv ht];simp only[Result.andThen_ok,hk];rw[if_neg (by simp),run_load,z];rfl
theorem qY(m:Mem Bw w0 ρ φ h w){o:Oper}{a:Act}{t:TypeId}{ti:TI}(ht:aO P t ti)(a1:ti.size=1){xo yo:Operand}{id i r:Nat}{f:Bool}(hx:V (Fr (own φ h) Bw w) ρ (.adr id i 2 f.toNat) (a.eval xo))
  (hy:V (Fr (own φ h) Bw w) ρ (z7 f r) (a.eval yo)) (ho:o.op = .store t xo yo) {e e2:TypeId} {D:List Nd} {hole:Option (Nat×Bool×Nat)} (hi:h id=some (.nds e e2 D hole)) (a2:i<D.length)
  (hh:∀k g j,hole=some (k,g,j)→k=i∧g=f):Good P o a w (aG Bw w0 ρ φ h w new .unk [(id,some (.nds e e2 D (some (i,f,r))))]):=by
 obtain⟨hr,hv⟩:=FU.1 hy;generalize a6:a.eval yo=E at hr hv;have J:E.cells = #[E]:=fW hv.one;obtain⟨L,cap,u,he,q1,hs,A,X,Y,M,h4,h5⟩:=zT m hi hx a2;have ac:f.toNat<2:=by cases f <;> decide
 have N:=ib (P:=P) ht A (v:=E) (p:=i*2+f.toNat) (by rw[J,a1];rfl) (by rw[M,a1];omega) (fun c hc=>by
  rw[J]at hc;simp only[List.mem_singleton]at hc;rw[hc];exact hv.one)
 have B:(u.toList.take (i*2+f.toNat)++E.cells.toList++u.toList.drop (i*2+f.toNat+ti.size))=u.toList.set (i*2+f.toNat) E:=by
  grind (splits:=6) (ematch:=4) [List.set_eq_take_append_cons_drop,Array.length_toList]
 rw[B]at N;have O:(u.toList.take (D.length*2)).length=D.length*2:=by
  grind
 refine Good.j5 (w':=_) (by simp[execOp,ho,Instr.storeAt,he,Instr.sureAddr,a6];rw[N];rfl) ?_;refine eG m (some id) id (.nds e e2 D (some (i,f,r))) (.slice (some ⟨L,0,none⟩) D.length cap) (φ id) (some L) (bc w L _) (fun k e=>⟨id,_,rfl,hi,rfl,by cases e;exact hs⟩) (.inr ⟨rfl,q1⟩)
  (fun _ k hk=>Nat.lt_of_lt_of_le (m.lt id _ k hi rfl hk) (bc w L _).size) (fun _ k hk=> .inr ⟨id,_,rfl,hi,rfl,hk⟩) (fun F' a7 hF a3=>?_) (by rw[bf];rfl) (fun e=>by rw[q1]at e;cases e) (fun F' a7 hF a3 aa=>by simp only[V])
 have z:∀q g,nJ (some (i,f,r)) q g→nJ hole q g:=fun q g hq k g2 I e=>by obtain⟨rfl,rfl⟩:=hh k g2 I e;exact hq k g2 r rfl
 have C:∀q g,¬(q=i∧g=f)→((u.toList.take (D.length*2)).set (i*2+f.toNat) E)[q*2+g.toNat]? = (u.toList.take (D.length*2))[q*2+g.toNat]? :=fun q g hq=>by
  refine List.getElem?_set_ne fun e=>hq ?_
  cases f <;> cases g <;> simp at e ⊢ <;> omega
 refine⟨fun k e=>by cases e;exact hs,fun k g I e=>(by cases e;exact a2),(u.toList.take (D.length*2)).set (i*2+f.toNat) E,⟨by rw[List.length_set];exact O,.inr ⟨L,cap,(u.toList.set (i*2+f.toNat) E).toArray,rfl,Nat.zero_le _,setRow_heap w L u _ e _ A,X,Y,by simp only[List.size_toArray,List.length_set,Array.length_toList];exact M,?_⟩⟩,fun q g hq=>?_,fun q g q' g2 vj a8 b a9 s1 s2 e1 a4=>?_⟩
 ·grind (splits:=6) (ematch:=4) [List.take_set]
 ·by_cases e:q=i∧g=f
  ·obtain⟨rfl,rfl⟩:=e;refine⟨E,by rw[List.getElem?_set_self (by rw[O];omega)],hv,fun Z=>absurd ⟨rfl,rfl⟩ (Z q g r rfl),fun I e=>?_⟩;cases e;exact a3 _ _ hr
  ·obtain⟨v,p1,p2,p3,_⟩:=h4 q g hq;refine⟨v,by rw[C q g e];exact p1,p2,fun Z=>?_,fun I e'=>by cases e';exact absurd ⟨rfl,rfl⟩ e⟩;obtain⟨b1,b2⟩:=p3 (z q g Z);have hin:∀k,dH v=some k→φ id k:=by cases g <;> exact b1.1
   have a5:∀k,dH v=some k→(w.setRow L (u.toList.set (i*2+f.toNat) E).toArray).heap[k]? = w.heap[k]? :=fun k hk =>
    (bc w L _).block k (m.lt id _ k hi rfl (hin k hk)) (fun e'=>b2 k hk (Option.some.inj e'))
   refine⟨?_,fun k hk e=>b2 k hk (by cases e;rfl)⟩;cases g with
   | false=>exact⟨hin,b1.2.mono a5⟩
   | true=>exact⟨hin,gf a5 b1.2⟩
 ·have n1:¬(q=i∧g=f):=s1 i f r rfl;have n2:¬(q'=i∧g2=f):=s2 i f r rfl;rw[C q g n1]at e1;rw[C q' g2 n2]at a4;exact h5 q g q' g2 vj a8 b a9 (z q g s1) (z q' g2 s2) e1 a4
theorem Iy{z:QU}(h:z.toList.map kE=[.lit (.map none),.nils]):z = #[.map none,.slice none 0 0]:=by
 have:=gU (F:=fun _ _ _=>True) (ρ:=fun _=>none) z.toList;rw[h]at this;simp only[VL,V]at this;obtain⟨⟨u,e,f⟩,⟨v,j,q⟩,_⟩:=this;have hl:=congrArg List.length h;simp only[List.length_map,Array.length_toList,List.length_cons,List.length_nil]at hl;subst f q;refine Array.ext' (List.ext_getElem? fun i=>?_);match i with
 | 0=>exact e
 | 1=>exact j
 | i+2=>rw[List.getElem?_eq_none (by simp;omega),List.getElem?_eq_none (by simp)]
theorem AT(m:Mem Bw w0 ρ φ h w)(hn:ρ new=none){o:Oper}{a:Act}{t e J:TypeId}{ti L:TI}(ht:aO P t ti)(hk:ti.k = .sl e)(M:aO P e L)(hz:L.z=[.lit (.map none),.nils])(B:L.size=2)
  {lo co:Operand} (ho:o.op = .makeSlice t lo co) {β N:Bool} {kl kc:IntKind} {l c:Int} (hl:V (Fr (own φ h) Bw w) ρ (.p β (.int kl) l) (a.eval lo)) (hc:V (Fr (own φ h) Bw w) ρ (.p N (.int kc) c) (a.eval co))
  (h1:0≤l) (h2:l≤c) (h3:(L.bytes:Int)*c≤281474976710656) (h4:c≤9223372036854775807) :
  Good P o a w (aG Bw w0 ρ φ h w new (.sl new) [(new,some (.nds e J (List.replicate l.toNat Nd.z) none))]):=by
 obtain⟨i,z,hi,O,u,q,C,a3,a4⟩:=M.hi;have hu:=aX ht hk;have D:=run_make (P:=P) w t e i z hu hi O kl kc l c h1 h2 (by rw[q];exact h3) h4;refine Good.aH (v:=_) (w':=_) (by simp only[execOp,ho,bR hl,bR hc,Sem.run_bind,D,Result.andThen_ok];rfl) ?_;have hm:(madeCells z.cells (c.toNat*i.size)).size=c.toNat*i.size:=size_madeCells _ _;have E:i.size=2:=by rw[u,B]
 rw[hz]at C;have X:=Iy C;have A:∀j (f:Bool),j<l.toNat→((madeCells z.cells (c.toNat*i.size)).toList.take (l.toNat*2))[j*2+f.toNat]? = some (if f then .slice none 0 0 else .map none):=fun j f Y=>by
  have hf:f.toNat<2:=by cases f <;> decide
  rw[List.getElem?_take,if_pos (by omega)];have Z:j*2+f.toNat<c.toNat*i.size:=by rw[E];omega
  have e1:(madeCells z.cells (c.toNat*i.size)).toList[j*2+f.toNat]? = some (z.cells[(j*2+f.toNat) % z.cells.size]!):=by simp[madeCells,Z]
  rw[e1,X];have:(j*2+f.toNat) % 2=f.toNat:=by omega
  show some ((#[Value.map none,.slice none 0 0])[(j*2+f.toNat) % 2]!)=_;rw[this];cases f <;> rfl
 refine cV m none new (.nds e J (List.replicate l.toNat Nd.z) none) (.slice (some ⟨w.heap.size,0,none⟩) l.toNat c.toNat) none (World.grownBy_alloc w _ none) (fun k e=>by cases e) (.inl hn) (fun _ k hk=>?_) (fun F' a1 hF a2=>?_) (by rw[bp];rfl) (fun _=>rfl) (fun F' a1 hF a2 I=>?_)
 ·simp_all [dH]
 ·refine⟨fun _ h=>h,fun _ _ _ e=>(by cases e),(madeCells z.cells (c.toNat*i.size)).toList.take (l.toNat*2),⟨?_,.inr ⟨w.heap.size,c.toNat,madeCells z.cells (c.toNat*i.size),?_,Nat.zero_le _,heap_alloc_new w _,?_,?_,?_,?_⟩⟩,fun j f Y=>?_,fun r f r' f' vr a5 b _ _ _ e1 J b1=>?_⟩
  ·grind
  ·simp
  ·simp;omega
  ·unfold maxLen;omega
  ·rw[hm,E]
  ·simp
  ·simp only[List.length_replicate]at Y;refine⟨_,A j f Y,?_,fun _=>⟨?_,fun k hk=>?_⟩,fun id e=>by cases e⟩
   ·cases f
    ·exact⟨_,rfl⟩
    ·exact⟨_,_,_,rfl⟩
   ·simp only[List.getElem_replicate];cases f
    ·exact⟨fun k hk=>by simp[dH]at hk,rfl,rfl⟩
    ·exact⟨fun k hk=>by simp[dH]at hk,World.ownsRow_nil _ 0 J 1⟩
   ·cases f <;> simp[dH]at hk
  ·grind (splits:=6) (ematch:=4) [List.length_take,dH]
 ·simp only[V];exact⟨I,_,_,_,rfl⟩
theorem CF(m:Mem Bw w0 ρ φ h w)(hn:ρ new=none){o:Oper}{a:Act}{t e:TypeId}{ti te:TI}(ht:aO P t ti)(hk:ti.k = .sl e)(a5:aO P e te)(a6:te.size=2)
  {xo yo:Operand} {id r:Nat} (N:V (Fr (own φ h) Bw w) ρ (.sl id) (a.eval xo)) (O:V (Fr (own φ h) Bw w) ρ (.sl r) (a.eval yo)) (ho:o.op = .call { callee:= .builtin .append,args:= #[xo,yo],argTypes:= #[t,t] })
  {X:TypeId} {B:List Nd} (hi:h id=some (.nds e X B none)) (hr:h r=some (.vrow 1 2 [.lit (.map none),.nils])) (hb:(B.length+1)*te.bytes≤140737488355328) (b7:B.length+1≤9223372036854775807) :
  Good P o a w (aG Bw w0 ρ φ h w new (.sl new) [(id,none),(new,some (.nds e X (B++[Nd.z]) none))]):=by
 obtain⟨i,z,a7,hz,A,C,b8,a8,b9⟩:=a5.hi;have hu:=aX ht hk;have J:i.size=2:=by rw[A,a6]
 obtain⟨v,q1,hs,_,cells,D,h4,h5⟩:=m.ob id _ hi;obtain⟨y,q2,g,t',arr,rfl,_,r1,r2,_,r4⟩:=m.ob r _ hr;simp only[V]at N O;obtain⟨N,_⟩:=N;obtain⟨O,_⟩:=O;rw[q1]at N;rw[q2]at O;have a9:=Option.some.inj N;have ac:=Option.some.inj O;obtain⟨aa,nn,cc,L⟩:∃aa nn cc,v = .slice aa nn cc:=by simp_all
 simp only[VL,V]at r4;obtain⟨⟨_,c0,rfl⟩,⟨_,c1,rfl⟩,_⟩:=r4;have M:∀j u,([.map none,.slice none 0 0]:QY)[j]? = some u→w.cell? ((⟨g,0,none⟩:Addr).add j)=some u:=fun j u Y=>by
  rw[cu,Nat.zero_add];simp only[World.cell?,r1];match j,Y with
  | 0,Y=>cases Y;exact c0
  | 1,Y=>cases Y;exact c1
 obtain⟨v',w',Z,h2,h3,h6⟩:=nk (P:=P) (t:=t) (ty:=o.type) hu a7 hz (by rw[a8,A]) (by omega) (v:=v) (n:=B.length) (xs:=cells) (by rw[J];exact D) (ad:=⟨g,0,none⟩) (len:=1) (c:=1) (news:=[.map none,.slice none 0 0])
  (by rw[J];rfl) M (fun u hu=>by simp at hu;rcases hu with rfl | rfl <;> rfl) (by unfold maxLen;omega) (by rw[C];exact hb)
 rw[J]at h2;obtain⟨bi,bs,bv,E⟩:∃aa nn cc,v' = .slice aa nn cc:=by rcases h2.2 with⟨e,_⟩ | ⟨g,cap,ax,e,_⟩ <;> exact⟨_,_,_,e⟩
 have b3:∀q f,nJ none q f:=fun _ _ _ _ _ e=>by cases e
 have a1:∀k,φ id k→k<w.heap.size:=fun k hk=>m.lt id _ k hi rfl hk
 refine Good.aH (v:=v') (w':=w') ?_ ?_
 ·simp only[execOp,ho,resolve,invoke,builtin,Sem.run_bind,Sem.run_pure,Result.andThen_ok,List.map_toArray,List.map_cons,List.map_nil,←a9,←ac,Z]
 refine eG m (some id) new (.nds e X (B++[Nd.z]) none) v' (fun k=>φ id k∨dH v'=some k) v.ownBlock h3 (fun k hk=>⟨id,_,rfl,hi,rfl,hs k (by rw[da L];exact hk)⟩) (.inl hn)
  (fun _ k hk=>?_) (fun _ k hk=>?_) (fun F' b4 hF b5=>?_) (by rw[su];rfl) (fun _=>rfl) (fun F' b4 hF b5 a2=>by simp only[V];exact⟨a2,_,_,_,E⟩)
 ·rcases hk with hk | hk
  ·exact Nat.lt_of_lt_of_le (a1 k hk) h3.size
  ·rcases h2.2 with⟨e,_⟩ | ⟨g',cap,ax,e,_,hh,_⟩
   ·rw[e]at hk;simp[dH]at hk
   ·grind (splits:=6) (ematch:=4) [dH,Nat.lt_or_ge]
 ·rcases hk with hk | hk
  ·exact .inr ⟨id,_,rfl,hi,rfl,hk⟩
  ·rcases h6 k (by rw[←da E];exact hk)with q | q
   ·exact .inl q
   ·exact .inr ⟨id,_,rfl,hi,rfl,hs k (by rw[da L];exact q)⟩
 have I:(B++[Nd.z]).length=B.length+1:=by simp
 have bx:=D.1;refine⟨fun k hk=> .inr hk,fun _ _ _ e=>(by cases e),cells++[.map none,.slice none 0 0],by rw[I];exact h2,fun q f hq=>?_,fun q f q' f' vq c2 b c3 _ _ e1 X b1 b2=>?_⟩
 ·rw[I]at hq;rcases Nat.lt_or_ge q B.length with a3 | c4
  ·obtain⟨vq,p1,p2,p3,_⟩:=h4 q f a3;obtain⟨p4,p5⟩:=p3 (b3 q f);have hin:∀k,dH vq=some k→φ id k:=by cases f <;> exact p4.1
   have a4:∀k,dH vq=some k→w'.heap[k]? = w.heap[k]? :=fun k hk=>h3.block k (a1 k (hin k hk)) (fun e=>p5 k hk (by rw[da L,←e]))
   refine⟨vq,by rw[List.getElem?_append_left (List.getElem?_eq_some_iff.1 p1).1];exact p1,p2,fun _=>⟨?_,fun k hk e=>?_⟩,fun j e=>by cases e⟩
   ·rw[List.getElem_append_left a3];cases f with
    | false=>exact⟨fun k hk=> .inl (hin k hk),p4.2.mono a4⟩
    | true=>exact⟨fun k hk=> .inl (hin k hk),gf a4 p4.2⟩
   ·grind (splits:=6) (ematch:=4) [da]
  ·obtain rfl:q=B.length:=by omega
   refine⟨if f then .slice none 0 0 else .map none,?_,?_,fun _=>⟨?_,fun k hk=>?_⟩,fun j e=>by cases e⟩
   ·grind
   ·cases f
    ·exact⟨_,rfl⟩
    ·exact⟨_,_,_,rfl⟩
   ·rw[List.getElem_append_right (by omega)];simp only[Nat.sub_self,List.getElem_cons_zero];cases f
    ·exact⟨fun k hk=>by simp[dH]at hk,rfl,rfl⟩
    ·exact⟨fun k hk=>by simp[dH]at hk,World.ownsRow_nil _ 0 X 1⟩
   ·cases f <;> simp[dH]at hk
 ·grind (splits:=6) (ematch:=4) [dH,Nat.lt_or_ge]
/-! ### Maps b6 c5 be none -/
theorem HG(m:Mem Bw w0 ρ φ h w){id:Nat}{b:Bool}{e:Qq}(hi:h id=some (.mpq b e)){v:Value}(f:V (Fr (own φ h) Bw w) ρ (.mp id) v):EJ w b e v:=by
 obtain⟨u,j,_,_,q⟩:=m.ob id _ hi;simp only[V]at f;rw[f.1]at j;cases j;exact q
theorem ES(m:Mem Bw w0 ρ φ h w){o:Oper}{a:Act}{t E I:TypeId}{ti J L:TI}(ht:aO P t ti)(hk:ti.k = .mp E I)(e:aO P E L)(f:L.k = .int .i32)(j:aO P I J)(hT:J.T=some (.int .i64))
  {M u:Operand} {q:Bool} (N:o.op = .lookup t M u q) {id:Nat} {b:Bool} {O:Qq} (hi:h id=some (.mpq b O)) (Z:V (Fr (own φ h) Bw w) ρ (.mp id) (a.eval M)) {v:Bool} {i:Int} (z:V (Fr (own φ h) Bw w) ρ (.p v (.int .i32) i) (a.eval u)) :
  Good P o a w (aG Bw w0 ρ φ h w new (A8 .i64 q (aT (α:=Int) (.int .i32) O i)) []):=by
 have X:a.eval u=aP (.int .i32) i:=nS rfl rfl z;have Y:=HG m hi Z;cases b with
 | false =>
  obtain⟨A,rfl⟩:=Y;exact look_nil m ht hk e f j hT N A X
 | true =>
  obtain⟨r,es,cl,A,hb,_,B,C,D⟩:=Y;exact F4 m ht hk e f j hT N A X hb B C D
theorem Bf(d:Nat){t k e:TypeId}(h:P.underlying t=some (.map k e))(r:QJ):(Op.equalIn (d+1) t (.map r) (.map none)).run P w = .ok r.isNone w:=by
 cases r <;> simp[Op.equalIn,run_underlying h]
theorem HL(m:Mem Bw w0 ρ φ h w){o:Oper}{a:Act}{t C D E:TypeId}{ti:TI}(ht:aO P t ti)(hk:ti.k = .mp C D){op:BinOp}{xo yo:Operand}(I:o.op = .binOp op t xo yo E){id:Nat}{b:Bool}{J:Qq}
  (hi:h id=some (.mpq b J)) (L:V (Fr (own φ h) Bw w) ρ (.mp id) (a.eval xo)) (A:V (Fr (own φ h) Bw w) ρ (.lit (.map none)) (a.eval yo)) {r:ag} (M:Ii op (!b)=some r):Good P o a w (aG Bw w0 ρ φ h w new r []):=by
 have B:=HG m hi L;simp only[V]at A;obtain⟨d,N,f⟩:=ht.hu;rw[hk]at f;simp only[UK]at f;subst f;obtain⟨q,O,j⟩:∃q:QJ,a.eval xo = .map q∧q.isNone = !b:=by
  cases b with
  | false=>exact⟨none,B.1,rfl⟩
  | true=>obtain⟨r,_,_,e,_⟩:=B;exact⟨some r,e,rfl⟩
 obtain⟨z,X,g2⟩:=td (P:=P) (w:=w) (F:=Fr (own φ h) Bw w) (ρ:=ρ) (xo:=xo) (yo:=yo) M (bJ (by intro Y e;cases e) (by intro e;cases e)) (u:= .map q) (v:= .map none) (t:=t) (by
  unfold Op.equal Op.maxDepth;rw[←j];exact Bf 9999 N q) ⟨rfl,rfl⟩
 exact Good.aH (v:=z) (w':=w) (by simp only[execOp,I,O,A];rw[Sem.run_bind,X];rfl) (aG.pure m g2)
theorem aG.as{x:ag}{u:iu}{v:Value}{w':World}(E:aG Bw w0 ρ φ h w new x u v w'){i:Nat}{o j:Obj}(hi:apply u h i=some o)(hl:o.live=true)(z:j.live=true)(I:∀F ρ S w u,OR F ρ S w o u→OR F ρ S w j u):
  aG Bw w0 ρ φ h w new x (u++[(i,some j)]) v w':=by
 obtain⟨B,C,J,L,M,N,O⟩:=E;obtain⟨X,D⟩:=J.as hi hl z I;have e:apply (u++[(i,some j)]) h=bu (apply u h) i (some j):=by rw[fm];rfl
 exact⟨B,C,by rw[e];exact X,by rw[e];exact fun β a v Y=>D _ _ _ (L _ _ _ Y),M,N,by rw[e];exact V.mono D (fun _ _ h=>h) O⟩
theorem Km{F:Bool→Addr→Value→Prop}{ρ:Nat→QW}{S:Nat→Prop}{w:World}{j:Qq}{u:Value}(h:OR F ρ S w (.mpq true j) u):OR F ρ S w (.mpo (.int .i32) (.int .i64) j) u:=by
 obtain⟨B,_,r,e,cl,rfl,hb,hB,q,f,v⟩:=h;refine⟨r,e,cl,rfl,B r rfl,hb,⟨rfl,hB⟩,q,v,fun i hi=>?_⟩;have hl:e.size=j.length:=by have:=congrArg List.length f;simpa using this
 have z:e[i]? = some e[i]:=Array.getElem?_eq_getElem (by omega);refine⟨e[i],z,?_⟩;have:=congrArg (fun l=>l[i]?) f;simp only[List.getElem?_map,Array.getElem?_toList,z,List.getElem?_eq_getElem hi,Option.map_some,Option.some.injEq]at this;rw[this];exact⟨rfl,rfl,fun _=>rfl,fun h=>by cases h⟩
theorem Kq{F:Bool→Addr→Value→Prop}{ρ:Nat→QW}{S:Nat→Prop}{w:World}{f:Qq}{u:Value}(h:OR F ρ S w (.mpo (.int .i32) (.int .i64) f) u):OR F ρ S w (.mpq true f) u:=by
 obtain⟨q,j⟩:=C3 h;have v:=j;obtain⟨r,_,_,e,_⟩:=v;exact⟨q,⟨_,e⟩,j⟩
theorem Hf(m:Mem Bw w0 ρ φ h w){o:Oper}{a:Act}{t f N:TypeId}{ti J:TI}(ht:aO P t ti)(hk:ti.k = .mp f N)(j:aO P f J)(q:J.k = .int .i32)
  {L u z:Operand} (O:o.op = .mapUpdate t L u z) {id:Nat} {b:Bool} {e:Qq} (hi:h id=some (.mpq b e)) (X:V (Fr (own φ h) Bw w) ρ (.mp id) (a.eval L)) {β B:Bool} {i n:Int} (C:V (Fr (own φ h) Bw w) ρ (.p B (.int .i32) i) (a.eval u))
  (Y:V (Fr (own φ h) Bw w) ρ (.p β (.int .i64) n) (a.eval z)) (hb:b=true) :
  Good P o a w (aG Bw w0 ρ φ h w new .unk [(id,some (.mpo (.int .i32) (.int .i64) e)),(id,some (.mpo (.int .i32) (.int .i64) (cq (α:=Int) (.int .i32) e i n))),(id,some (.mpq true (cq (α:=Int) (.int .i32) e i n)))]):=by
 subst hb;obtain⟨Z,M⟩:=m.as hi rfl rfl (fun _ _ _ _ _=>Km);have D:fU P f (.int .i32):=fU.zL j (by rw[q];rfl);have e2:a.eval u=aP (.int .i32) i:=nS rfl rfl C;have E:V (Fr (own φ (bu h id (some (.mpo (.int .i32) (.int .i64) e)))) Bw w) ρ (.p false (.int .i64) n) (a.eval z):=by rw[bR Y];exact dM _ _ _
 have hg:=lW (new:=new) Z ht hk D (A:= .int .i64) (.inl O) (us:=[]) (av _ _ _) (av _ _ _) (V.mono M (fun _ _ h=>h) X) e2 E rfl rfl (x:=n) rfl;refine fun K Q I=>hg K Q fun v w' hp=>I v w' ?_
 exact aG.as (aG.after (u1:=[(id,some (.mpo (.int .i32) (.int .i64) e))]) rfl M hp) (o:= .mpo (.int .i32) (.int .i64) (cq (α:=Int) (.int .i32) e i n)) (by rw[fm];exact av _ _ _) rfl rfl (fun _ _ _ _ _=>Kq)
end
def Be(tb:bQ)(t:TypeId):Option (TypeId×TI) :=
 match tb.find t with
 | some ti=>match ti.k with
  | .sl e=>match tb.find e with
   | some f=>some (e,f)
   | none=>none
  | _=>none
 | none=>none
theorem iP{P:Program}{tb:bQ}(f:bY P tb){t e:TypeId}{q:TI}(h:Be tb t=some (e,q)):∃ti,aO P t ti∧ti.k = .sl e∧aO P e q:=by
 unfold Be at h;split at h
 ·rename_i ti ht;split at h
  ·rename_i z hk;split at h
   ·rename_i u j;cases h;exact⟨ti,f.find ht,hk,f.find j⟩
   ·cases h
  ·cases h
 ·cases h
def I2(tb:bQ)(t:TypeId)(x:ag)(h:Nat→Qz):XQ :=
 match x with
 | .adr id i 2 off=>match h id with
  | some (.nds _ _ _ (some (k,f,j)))=>match tb.find t with
   | some ti=>if ti.k.agg=false∧off=f.toNat then some (z7 f j,[],i=k)else none
   | none=>none
  | _=>none
 | _=>none
def Lk:ag→Option (Bool×Nat)
 | .mp r=>some (false,r)
 | .sl r=>some (true,r)
 | _=>none
def LG(e:Option (Nat×Bool×Nat))(i:Nat)(f:Bool)(n:Nat):Prop :=
 match e with
 | none=>i<n
 | some (k,g,_)=>k=i∧g=f
def EL(tb:bQ)(t:TypeId)(x y:ag)(h:Nat→Qz):XQ :=
 match x with
 | .adr id i 2 off=>match h id with
  | some (.nds e q j u)=>match tb.find t with
   | some ti=>match Lk y with
    | some (f,r)=>if ti.size=1∧off=f.toNat then some (.unk,[(id,some (.nds e q j (some (i,f,r))))],LG u i f j.length)else none
    | none=>none
   | none=>none
  | _=>none
 | _=>none
def Ef(tb:bQ)(t:TypeId)(x i:ag)(h:Nat→Qz):XQ :=
 match x with
 | .sl id=>match h id with
  | some (.nds _ _ e _)=>match i with
   | .p _ (.int _) n=>match Be tb t with
    | some (_,f)=>if f.size=2 then some (.adr id (show Int from n).toNat 2 0,[],0≤(show Int from n)∧(show Int from n)<(e.length:Int))else none
    | none=>none
   | _=>none
  | _=>none
 | _=>none
def Lu(tb:bQ)(op:BinOp)(t:TypeId)(x y:ag)(h:Nat→Qz):XQ :=
 match x,y with
 | .mp id,.lit (.map none)=>match h id with
  | some (.mpq b _)=>match tb.find t with
   | some ti=>match ti.k with
    | .mp _ _=>match Ii op (!b)with
     | some r=>some (r,[],True)
     | none=>none
    | _=>none
   | none=>none
  | _=>none
 | _,_=>none
def HV(tb:bQ)(t:TypeId)(x k:ag)(e:Bool)(h:Nat→Qz):XQ :=
 match x,k with
 | .mp id,.p _ (.int .i32) i=>match h id with
  | some (.mpq _ f)=>match tb.find t with
   | some ti=>match ti.k with
    | .mp j q=>match tb.find j,tb.find q with
     | some u,some v=>match u.k with
      | .int .i32=>if v.T=some (.int .i64)then some (A8 .i64 e (aT (α:=Int) (.int .i32) f i),[],True)else none
      | _=>none
     | _,_=>none
    | _=>none
   | none=>none
  | _=>none
 | _,_=>none
def Mv(tb:bQ)(t:TypeId)(x k y:ag)(h:Nat→Qz):XQ :=
 match x with
 | .mp id=>match k,y with
  | .p _ (.int .i32) i,.p _ (.int .i64) n=>match h id with
   | some (.mpq b e)=>match tb.find t with
    | some ti=>match ti.k with
     | .mp f _=>match tb.find f with
      | some j=>match j.k with
       | .int .i32=>some (.unk,[(id,some (.mpo (.int .i32) (.int .i64) e)),(id,some (.mpo (.int .i32) (.int .i64) (cq (α:=Int) (.int .i32) e i n))),(id,some (.mpq true (cq (α:=Int) (.int .i32) e i n)))],b=true)
       | _=>none
      | none=>none
     | _=>none
    | none=>none
   | _=>none
  | _,_=>none
 | _=>none
def JF(tb:bQ)(e:TI):Option TypeId :=
 match e.z with
 | [.lit (.map none),.nils]=>if e.size=2 then(match e.k with
  | .st [_,(1,f)]=>match tb.find f with
   | some ti=>match ti.k with
    | .sl j=>some j
    | _=>none
   | none=>none
  | _=>none)else none
 | _=>none
theorem Db{tb:bQ}{e:TI}{f:TypeId}(h:JF tb e=some f):e.z=[.lit (.map none),.nils]∧e.size=2:=by
 grind (splits:=6) (ematch:=4) [JF]
def Ln(fl:Bool)(tb:bQ)(new:Nat)(t:TypeId)(l c:ag):XQ :=
 match fl with
 | true=>match Be tb t with
  | some (e,f)=>match JF tb f with
   | some j=>match l,c with
    | .p _ (.int _) n,.p _ (.int _) k=>some (.sl new,[(new,some (.nds e j (List.replicate (show Int from n).toNat Nd.z) none))],0≤(show Int from n)∧(show Int from n)≤k∧(f.bytes:Int)*k≤281474976710656∧(show Int from k)≤9223372036854775807)
    | _,_=>none
   | none=>none
  | none=>none
 | false=>none
def Me(tb:bQ)(t:TypeId)(x:ag)(h:Nat→Qz):XQ :=
 match x with
 | .sl id=>match h id with
  | some (.nds _ _ e _)=>match Be tb t with
   | some _=>some (.p false (.int .i64) (e.length:Int),[],True)
   | none=>none
  | _=>none
 | _=>none
def isNode:List ag→Bool
 | [.lit (.map none),.nils]=>true
 | _=>false
theorem Hw{e:List ag}(h:isNode e=true):e=[.lit (.map none),.nils]:=by
 unfold isNode at h;split at h
 ·rfl
 ·cases h
def Mt(tb:bQ)(new:Nat)(t u:TypeId)(x y:ag)(h:Nat→Qz):XQ :=
 match x,y with
 | .sl id,.sl r=>match h id,h r with
  | some (.nds e q f none),some (.vrow 1 2 v)=>if isNode v=true∧u=t then(match Be tb t with
   | some (A,j)=>if A=e∧j.size=2 then some (.sl new,[(id,none),(new,some (.nds e q (f++[Nd.z]) none))],(f.length+1)*j.bytes≤140737488355328∧f.length+1≤9223372036854775807)else none
   | none=>none)else none
  | _,_=>none
 | _,_=>none
def qJ(tb:bQ)(new:Nat)(fl:Bool)(op:Op)(s:Nat→ag)(h:Nat→Qz):XQ :=
 match op with
 | .load t x=>I2 tb t (ev s x) h
 | .store t x y=>EL tb t (ev s x) (ev s y) h
 | .indexAddr t x i=>Ef tb t (ev s x) (ev s i) h
 | .binOp op t x y _=>Lu tb op t (ev s x) (ev s y) h
 | .lookup t x k e=>HV tb t (ev s x) (ev s k) e h
 | .mapUpdate t x k y=>Mv tb t (ev s x) (ev s k) (ev s y) h
 | .makeSlice t l c=>Ln fl tb new t (ev s l) (ev s c)
 | .call c=>match c.callee with
  | .builtin .len=>match c.args.toList,c.argTypes.toList with
   | [x],[t]=>Me tb t (ev s x) h
   | _,_=>none
  | .builtin .append=>match c.args.toList,c.argTypes.toList with
   | [x,y],[t,u]=>Mt tb new t u (ev s x) (ev s y) h
   | _,_=>none
  | _=>none
 | _=>none
section
variable{P:Program}{tb:bQ}{Bw:Nat→Prop}{w0:cE P}{ρ:Nat→QW}{φ:Nat→Nat→Prop}{h:Nat→Qz}{w:World}{new:Nat}{n:NS}{s:Nat→ag}{a:Act}
theorem Hq(v:bY P tb)(m:Mem Bw w0 ρ φ h w)(A:bV n (Fr (own φ h) Bw w) ρ s a)(hn:ρ new=none){o:Oper}{fl:Bool}{x:ag}{u:iu}{c:Prop}
  (hd:qJ tb new fl o.op s h=some (x,u,c)) (hc:c):Good P o a w (aG Bw w0 ρ φ h w new x u):=by
 unfold qJ at hd;split at hd
 ·-- load
  rename_i t B C;have z:=ba A B;unfold I2 at hd;split at hd
  ·rename_i id i off ex;rw[ex]at z;split at hd
   ·rename_i e e2 ns k f j q;split at hd
    ·rename_i ti ht;split at hd
     ·rename_i hq;obtain⟨h1,rfl⟩:=hq;cases hd;exact Ax m (v.find ht) h1 z C q hc
     ·cases hd
    ·cases hd
   ·cases hd
  ·cases hd
 ·-- store
  rename_i t B I C;have z:=ba A B;have D:=ba A I;unfold EL at hd;split at hd
  ·rename_i id i off ex;rw[ex]at z;split at hd
   ·rename_i e e2 ns hole q;split at hd
    ·rename_i ti ht;split at hd
     ·rename_i f r X;split at hd
      ·rename_i hq;obtain⟨h1,rfl⟩:=hq;cases hd;have Y:V (Fr (own φ h) Bw w) ρ (z7 f r) (a.eval I):=by
        unfold Lk at X;split at X
        ·rename_i e;cases X;rw[e]at D;exact D
        ·rename_i e;cases X;rw[e]at D;exact D
        ·cases X
       obtain⟨_,_,_,a1,_⟩:=m.ob id _ q;cases hole with
       | none=>exact qY m (v.find ht) h1 z Y C q hc (fun k g j e=>by cases e)
       | some p =>
        obtain⟨k,g,j⟩:=p;obtain⟨rfl,rfl⟩:=hc;exact qY m (v.find ht) h1 z Y C q (a1 _ _ _ rfl) (fun k g j e=>by cases e;exact⟨rfl,rfl⟩)
      ·cases hd
     ·cases hd
    ·cases hd
   ·cases hd
  ·cases hd
 ·-- index
  rename_i t B io C;have z:=ba A B;have hi:=ba A io;unfold Ef at hd;split at hd
  ·grind (splits:=6) (ematch:=4) [iP,zm]
  ·cases hd
 ·-- binOp
  rename_i op t B I t' C;have z:=ba A B;have D:=ba A I;unfold Lu at hd;split at hd
  ·rename_i id ex ey;rw[ex]at z;rw[ey]at D;split at hd
   ·rename_i b kv q;split at hd
    ·rename_i ti ht;split at hd
     ·rename_i kt O hk;split at hd
      ·rename_i r hr;cases hd;exact HL m (v.find ht) hk C q z D hr
      ·cases hd
     ·cases hd
    ·cases hd
   ·cases hd
  ·cases hd
 ·-- lookup
  rename_i t B ko a3 C;have z:=ba A B;have hk:=ba A ko;unfold HV at hd;split at hd
  ·rename_i id β i ex ek;rw[ex]at z;rw[ek]at hk;split at hd
   ·rename_i b kv q;split at hd
    ·rename_i ti ht;split at hd
     ·rename_i kt O J;split at hd
      ·rename_i tk te L a2;split at hd
       ·rename_i E;split at hd
        ·rename_i hT;cases hd;exact ES m (v.find ht) J (v.find L) E (v.find a2) hT C q z hk
        ·cases hd
       ·cases hd
      ·cases hd
     ·cases hd
    ·cases hd
   ·cases hd
  ·cases hd
 ·-- mapUpdate
  rename_i t B ko I C;have z:=ba A B;have hk:=ba A ko;have D:=ba A I;unfold Mv at hd;split at hd
  ·rename_i id ex;rw[ex]at z;split at hd
   ·rename_i β i a4 n ek ey;rw[ek]at hk;rw[ey]at D;split at hd
    ·rename_i b kv q;split at hd
     ·rename_i ti ht;split at hd
      ·rename_i kt O J;split at hd
       ·rename_i tk L;split at hd
        ·rename_i E;cases hd;exact Hf m (v.find ht) J (v.find L) E C q z hk D hc
        ·cases hd
       ·cases hd
      ·cases hd
     ·cases hd
    ·cases hd
   ·cases hd
  ·cases hd
 ·-- makeSlice
  rename_i t lo co C;have hl:=ba A lo;have a5:=ba A co;unfold Ln at hd;split at hd
  ·grind (splits:=6) (ematch:=4) [iP,Db,AT]
  ·cases hd
 ·-- call
  rename_i c0 C;obtain⟨callee,args,Z⟩:=c0;simp only at hd;split at hd
  ·split at hd
   ·rename_i B t ea O;have M:args = #[B]:=Array.ext' ea;have N:Z = #[t]:=Array.ext' O;subst M N;have z:=ba A B;unfold Me at hd;split at hd
    ·grind (splits:=6) (ematch:=4) [iP,Cc]
    ·cases hd
   ·cases hd
  ·split at hd
   ·rename_i B I t u' ea O;have M:args = #[B,I]:=Array.ext' ea;have N:Z = #[t,u']:=Array.ext' O;subst M N;have z:=ba A B;have D:=ba A I;unfold Mt at hd;split at hd
    ·grind (splits:=6) (ematch:=4) [Hw,iP,CF]
    ·cases hd
   ·cases hd
  ·cases hd
 ·cases hd
theorem Ep{s I:Nat→ag}{h h':Nat→Qz}{op:Op}{fl:Bool}(q:∀x∈op.operands.toList,ev s x=ev I x)(key:∀x∈op.operands.toList,(¬((∃x,op = .move x)∨(∃x,op = .assign x)∨(∃x,op = .nilCheck x)∨∃t x f,op = .fieldAddr t x f))→∀i∈ids (ev s x),h i=h' i):
  qJ tb new fl op s h=qJ tb new fl op I h':=by
 have z:∀x∈op.operands.toList,(¬((∃x,op = .move x)∨(∃x,op = .assign x)∨(∃x,op = .nilCheck x)∨∃t x f,op = .fieldAddr t x f))→∀y,ev s x=y→∀i∈ids y,h i=h' i:=fun x v B y e i hi=>key x v B i (by rw[e];exact hi)
 cases op with
 | load t x =>
  have v:=z x (by simp[Op.operands]) (by rintro(⟨_,e⟩ | ⟨_,e⟩ | ⟨_,e⟩ | ⟨_,_,_,e⟩) <;> cases e);simp only[qJ,←q x (by simp[Op.operands])];unfold I2;split
  ·simp_all [ids]
  ·rfl
 | store t x y =>
  have v:=z x (by simp[Op.operands]) (by rintro(⟨_,e⟩ | ⟨_,e⟩ | ⟨_,e⟩ | ⟨_,_,_,e⟩) <;> cases e);simp only[qJ,←q x (by simp[Op.operands]),←q y (by simp[Op.operands])];unfold EL;split
  ·simp_all [ids]
  ·rfl
 | indexAddr t x i =>
  have v:=z x (by simp[Op.operands]) (by rintro(⟨_,e⟩ | ⟨_,e⟩ | ⟨_,e⟩ | ⟨_,_,_,e⟩) <;> cases e);simp only[qJ,←q x (by simp[Op.operands]),←q i (by simp[Op.operands])];unfold Ef;split
  ·rename_i id ex;rw[v _ ex id (by simp[ids])]
  ·rfl
 | binOp o t x y L =>
  have v:=z x (by simp[Op.operands]) (by rintro(⟨_,e⟩ | ⟨_,e⟩ | ⟨_,e⟩ | ⟨_,_,_,e⟩) <;> cases e);simp only[qJ,←q x (by simp[Op.operands]),←q y (by simp[Op.operands])];unfold Lu;split
  ·rename_i id ex M;rw[v _ ex id (by simp[ids])]
  ·rfl
 | lookup t x k J =>
  have v:=z x (by simp[Op.operands]) (by rintro(⟨_,e⟩ | ⟨_,e⟩ | ⟨_,e⟩ | ⟨_,_,_,e⟩) <;> cases e);simp only[qJ,←q x (by simp[Op.operands]),←q k (by simp[Op.operands])];unfold HV;split
  ·simp_all [ids]
  ·rfl
 | mapUpdate t x k y =>
  have v:=z x (by simp[Op.operands]) (by rintro(⟨_,e⟩ | ⟨_,e⟩ | ⟨_,e⟩ | ⟨_,_,_,e⟩) <;> cases e);simp only[qJ,←q x (by simp[Op.operands]),←q k (by simp[Op.operands]),←q y (by simp[Op.operands])];unfold Mv;split
  ·rename_i id ex;rw[v _ ex id (by simp[ids])]
  ·rfl
 | makeSlice t l c=>simp only[qJ,q l (by simp[Op.operands]),q c (by simp[Op.operands])]
 | call c =>
  obtain⟨callee,args,C⟩:=c;have j:∀x∈args.toList,x∈(Op.call { callee,args,argTypes:=C }).operands.toList:=fun x v=>by simp only[Op.operands,Call.operands,Array.toList_append,List.mem_append];exact .inr v
  have v:∀x∈args.toList,∀y,ev s x=y→∀i∈ids y,h i=h' i:=fun x v=>z x (j x v) (by rintro(⟨_,e⟩ | ⟨_,e⟩ | ⟨_,e⟩ | ⟨_,_,_,e⟩) <;> cases e)
  simp only[qJ];split
  ·split
   ·rename_i x t A _;have D:x∈args.toList:=by rw[A];simp
    rw[←q x (j x D)];unfold Me;split
    ·simp_all [ids]
    ·rfl
   ·rfl
  ·split
   ·rename_i x y t u A _;have D:x∈args.toList:=by rw[A];simp
    have E:y∈args.toList:=by rw[A];simp
    rw[←q x (j x D),←q y (j y E)];unfold Mt;split
    ·simp_all [ids]
    ·rfl
   ·rfl
  ·rfl
 | _=>rfl
end
end Go.Tv
