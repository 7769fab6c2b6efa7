import Derived.Test.YtflahpmlcfhpcaaGreatDoorTvL
import Derived.Test.YtflahpmlcfhpcaaGreatDoorTvKlm
namespace Go.Tv
open Go Go.RowKit
section
variable{P:Program}{tb:bU}{Bw:Nat→Prop}{w0:cw P}{ρ:Nat→QW}{φ:Nat→Nat→Prop}{h:Nat→Qz}{w:World}{new:Nat}
def xV:Bool→Nat→ag
 | false,j=> .mp j
 | true,j=> .sl j
theorem DU{F:Bool→Addr→Value→Prop}{f:Bool}{j:Nat}{v:Value}:V F ρ (xV f j) v↔ρ j=some v∧Bu f v:=by
 cases f <;> simp only[xV,V,Bu]
theorem Bu.one{f:Bool}{v:Value}(h:Bu f v):v.oneCell'=true:=by
 cases f with
 | false=>obtain⟨_,rfl⟩:=h;rfl
 | true=>obtain⟨_,_,_,rfl⟩:=h;rfl
theorem C4(m:Mem Bw w0 ρ φ h w){id:Nat}{e q:TypeId}{f:List Nd}{x:Option (Nat×Bool×Nat)}(hi:h id=some (.nds e q f x)){v:Value}(j:V (Fr (own φ h) Bw w) ρ (.sl id) v):
  (v = .slice none 0 0∧f.length=0)∨∃g cap,v = .slice (some ⟨g,0,none⟩) f.length cap∧f.length≤cap:=by
 obtain⟨u,p,_,_,cells,z,_⟩:=m.ob id _ hi;simp only[V]at j;rw[j.1]at p;cases p;rcases z.2 with⟨rfl,hn⟩ | ⟨g,cap,A,rfl,_,_,hn,_⟩
 ·exact .inl ⟨rfl,hn⟩
 ·exact .inr ⟨g,cap,rfl,hn⟩
theorem Bh(m:Mem Bw w0 ρ φ h w){o:Oper}{a:Act}{t:TypeId}{ti:TI}(ht:aN P t ti){e:TypeId}(hk:ti.k = .sl e){j:Operand}{id:Nat}{q u:TypeId}{f:List Nd}{hole:Option (Nat×Bool×Nat)}(x:V (Fr (own φ h) Bw w) ρ (.sl id) (a.eval j))
  (hb:h id=some (.nds q u f hole)) (z:o.op = .call { callee:= .builtin .len,args:= #[j],argTypes:= #[t] }):Good P o a w (aF Bw w0 ρ φ h w new (.p false (.int .i64) (f.length:Int)) []):=by
 have hu:=aX ht hk;refine Good.aG (v:= .int .i64 f.length) (w':=w) ?_ (aF.pure m (dH _ _ _));simp only[execOp,z,resolve,invoke,builtin,Sem.run_bind,Sem.run_pure,Result.andThen_ok,List.map_toArray,List.map_cons,List.map_nil];rcases C4 m hb x with⟨e,hn⟩ | ⟨g,cap,e,_⟩
 ·rw[e,hn];simp[Builtin.len_,run_underlying hu,goInt]
 ·rw[e];simp[Builtin.len_,run_underlying hu,goInt]
theorem wV(m:Mem Bw w0 ρ φ h w){o:Oper}{a:Act}{t e:TypeId}{ti f:TI}(ht:aN P t ti)(hk:ti.k = .sl e)(j:aN P e f)(q:f.size=2){x io:Operand}{id:Nat}{C D:TypeId}{z:List Nd}{hole:Option (Nat×Bool×Nat)}(u:V (Fr (own φ h) Bw w) ρ (.sl id) (a.eval x))
  (hb:h id=some (.nds C D z hole)) {β:Bool} {k:IntKind} {i:Int} (hi:V (Fr (own φ h) Bw w) ρ (.p β (.int k) i) (a.eval io)) (E:o.op = .indexAddr t x io) (I:0≤i) (hn:i<z.length) :
  Good P o a w (aF Bw w0 ρ φ h w new (.adr id i.toNat 2 0) []):=by
 have hu:=aX ht hk;have J:=bX hi;rcases C4 m hb u with⟨_,h'⟩ | ⟨g,cap,A,B⟩
 ·omega
 simp only[V]at u;refine Good.aG (v:= .pointer (some ((⟨g,0,none⟩:Addr).add (i.toNat*f.size)))) (w':=w) ?_ (aF.pure m ?_)
 ·simp[execOp,E,Instr.indexAt,asIntOf,J,A,run_underlying hu,run_sizeOf j,I,hn]
 ·simp only[V];exact⟨g,.inr ⟨_,_,by rw[u.1,A]⟩,by rw[cr,q];simp⟩
theorem yj(m:Mem Bw w0 ρ φ h w){id i off:Nat}{e L:TypeId}{z:List Nd}{hole:Option (Nat×Bool×Nat)}(hb:h id=some (.nds e L z hole)){v:Value}(M:V (Fr (own φ h) Bw w) ρ (.adr id i 2 off) v)(hi:i<z.length):
  ∃g cap q,v = .pointer (some ⟨g,i*2+off,none⟩)∧ρ id=some (.slice (some ⟨g,0,none⟩) z.length cap)∧φ id g∧w.heap[g]? = some (.cells q e (0,0))∧z.length≤cap∧cap≤maxLen∧q.size=cap*2 ∧
   (∀i f (h:i<z.length),∃v,(q.toList.take (z.length*2))[i*2+f.toNat]? = some v∧Bu f v∧(mL hole i f→ze (φ id) w L v f z[i]∧∀k,dx v=some k→k≠g)∧∀j,hole=some (i,f,j)→ρ j=some v) ∧
   ∀i f j g N O b,¬(i=j∧f=g)→mL hole i f→mL hole j g→(q.toList.take (z.length*2))[i*2+f.toNat]? = some N→(q.toList.take (z.length*2))[j*2+g.toNat]? = some O→dx N=some b→dx O≠some b:=by
 obtain⟨u,X,Z,_,cells,h3,h4,h5⟩:=m.ob id _ hb;simp only[V]at M;obtain⟨g,A,he⟩:=M;rcases h3.2 with⟨rfl,hn⟩ | ⟨I,cap,q,rfl,_,B,C,D,E,x⟩
 ·omega
 have J:I=g:=by
  rw[X]at A;rcases A with A | ⟨n,c,A⟩
  ·cases A
  ·simp only[Option.some.injEq,Value.slice.injEq,Addr.mk.injEq]at A;exact A.1.1
 subst J;refine⟨I,cap,q,he,X,Z I rfl,B,C,D,E,?_,?_⟩
 ·rw[x];intro r f hr;obtain⟨v,c1,c2,Y,c4⟩:=h4 r f hr;exact⟨v,c1,c2,fun s=>⟨(Y s).1,fun k hk e=>(Y s).2 k hk (by rw[e];rfl)⟩,c4⟩
 ·rw[x];exact h5
theorem zb(m:Mem Bw w0 ρ φ h w){o:Oper}{a:Act}{t:TypeId}{ti:TI}(ht:aN P t ti)(hk:ti.k.agg=false){C:Operand}{id i k j:Nat}{f:Bool}(E:V (Fr (own φ h) Bw w) ρ (.adr id i 2 f.toNat) (a.eval C))(I:o.op = .load t C)
  {e J:TypeId} {L:List Nd} (hb:h id=some (.nds e J L (some (k,f,j)))) (z:i=k) :
  Good P o a w (aF Bw w0 ρ φ h w new (xV f j) []):=by
 subst z;obtain⟨u,_,_,A,_⟩:=m.ob id _ hb;have hi:=A i f j rfl;obtain⟨g,cap,M,N,Z,_,p,B,_,D,O,_⟩:=yj m hb E hi;obtain⟨v,x,X,_,Y⟩:=O i f hi;have q:w.cell? ⟨g,i*2+f.toNat,none⟩=some v:=by
  rw[List.getElem?_take]at x;split at x
  ·simp only[World.cell?,p];rw[←Array.getElem?_toList];exact x
  ·cases x
 refine Good.aG (v:=v) (w':=w) ?_ (aF.pure m (DU.2 ⟨Y j rfl,X⟩));simp only[execOp,I,Instr.loadAt,N,Instr.sureAddr,Sem.run_bind,Sem.run_pure,Result.andThen_ok];unfold loadVar;rw[Sem.run_bind,kP ht];simp only[Result.andThen_ok,hk];rw[if_neg (by simp),run_load,q];rfl
theorem pS(m:Mem Bw w0 ρ φ h w){o:Oper}{a:Act}{t:TypeId}{ti:TI}(ht:aN P t ti)(O:ti.size=1){xo yo:Operand}{id i r:Nat}{f:Bool}(hx:V (Fr (own φ h) Bw w) ρ (.adr id i 2 f.toNat) (a.eval xo))
  (hy:V (Fr (own φ h) Bw w) ρ (xV f r) (a.eval yo)) (ho:o.op = .store t xo yo) {e e2:TypeId} {z:List Nd} {hole:Option (Nat×Bool×Nat)} (hi:h id=some (.nds e e2 z hole)) (a1:i<z.length)
  (hh:∀k g j,hole=some (k,g,j)→k=i∧g=f):Good P o a w (aF Bw w0 ρ φ h w new .unk [(id,some (.nds e e2 z (some (i,f,r))))]):=by
 obtain⟨hr,hv⟩:=DU.1 hy;generalize a5:a.eval yo=A at hr hv;have B:A.cells = #[A]:=fF hv.one;obtain⟨J,cap,u,he,q1,hs,C,X,Y,L,h4,h5⟩:=yj m hi hx a1;have aa:f.toNat<2:=by cases f <;> decide
 have M:=gM (P:=P) ht C (v:=A) (p:=i*2+f.toNat) (by rw[B,O];rfl) (by rw[L,O];omega) (fun c hc=>by
  rw[B]at hc;simp only[List.mem_singleton]at hc;rw[hc];exact hv.one)
 have D:(u.toList.take (i*2+f.toNat)++A.cells.toList++u.toList.drop (i*2+f.toNat+ti.size))=u.toList.set (i*2+f.toNat) A:=by rw[B,O,List.set_eq_take_append_cons_drop,if_pos (by simp only[Array.length_toList];omega)];simp
 rw[D]at M;have N:(u.toList.take (z.length*2)).length=z.length*2:=by simp only[List.length_take,Array.length_toList];omega
 refine Good.jD (w':=_) (by simp[execOp,ho,Instr.storeAt,he,Instr.sureAddr,a5];rw[M];rfl) ?_;refine dY m (some id) id (.nds e e2 z (some (i,f,r))) (.slice (some ⟨J,0,none⟩) z.length cap) (φ id) (some J) (ba w J _) (fun k e=>⟨id,_,rfl,hi,rfl,by cases e;exact hs⟩) (.inr ⟨rfl,q1⟩)
  (fun _ k hk=>Nat.lt_of_lt_of_le (m.lt id _ k hi rfl hk) (ba w J _).size) (fun _ k hk=> .inr ⟨id,_,rfl,hi,rfl,hk⟩) (fun F' a6 hF a2=>?_) (by rw[bm];rfl) (fun e=>by rw[q1]at e;cases e) (fun F' a6 hF a2 a9=>by simp only[V])
 have x:∀q g,mL (some (i,f,r)) q g→mL hole q g:=fun q g hq k g2 I e=>by obtain⟨rfl,rfl⟩:=hh k g2 I e;exact hq k g2 r rfl
 have E:∀q g,¬(q=i∧g=f)→((u.toList.take (z.length*2)).set (i*2+f.toNat) A)[q*2+g.toNat]? = (u.toList.take (z.length*2))[q*2+g.toNat]? :=fun q g hq=>by
  refine List.getElem?_set_ne fun e=>hq ?_
  cases f <;> cases g <;> simp at e ⊢ <;> omega
 refine⟨fun k e=>by cases e;exact hs,fun k g I e=>(by cases e;exact a1),(u.toList.take (z.length*2)).set (i*2+f.toNat) A,⟨by rw[List.length_set];exact N,.inr ⟨J,cap,(u.toList.set (i*2+f.toNat) A).toArray,rfl,Nat.zero_le _,setRow_heap w J u _ e _ C,X,Y,by simp only[List.size_toArray,List.length_set,Array.length_toList];exact L,?_⟩⟩,fun q g hq=>?_,fun q g q' g2 vj a7 b a8 s1 s2 e1 a3=>?_⟩
 ·show(u.toList.set (i*2+f.toNat) A).take (z.length*2)=_;rw[List.take_set]
 ·by_cases e:q=i∧g=f
  ·obtain⟨rfl,rfl⟩:=e;refine⟨A,by rw[List.getElem?_set_self (by rw[N];omega)],hv,fun Z=>absurd ⟨rfl,rfl⟩ (Z q g r rfl),fun I e=>?_⟩;cases e;exact a2 _ _ hr
  ·obtain⟨v,p1,p2,p3,_⟩:=h4 q g hq;refine⟨v,by rw[E q g e];exact p1,p2,fun Z=>?_,fun I e'=>by cases e';exact absurd ⟨rfl,rfl⟩ e⟩;obtain⟨b1,b2⟩:=p3 (x q g Z);have hin:∀k,dx v=some k→φ id k:=by cases g <;> exact b1.1
   have a4:∀k,dx v=some k→(w.setRow J (u.toList.set (i*2+f.toNat) A).toArray).heap[k]? = w.heap[k]? :=fun k hk =>
    (ba w J _).block k (m.lt id _ k hi rfl (hin k hk)) (fun e'=>b2 k hk (Option.some.inj e'))
   refine⟨?_,fun k hk e=>b2 k hk (by cases e;rfl)⟩;cases g with
   | false=>exact⟨hin,b1.2.mono a4⟩
   | true=>exact⟨hin,fL a4 b1.2⟩
 ·have n1:¬(q=i∧g=f):=s1 i f r rfl;have n2:¬(q'=i∧g2=f):=s2 i f r rfl;rw[E q g n1]at e1;rw[E q' g2 n2]at a3;exact h5 q g q' g2 vj a7 b a8 (x q g s1) (x q' g2 s2) e1 a3
theorem F1{z:QU}(h:z.toList.map j7=[.lit (.map none),.nils]):z = #[.map none,.slice none 0 0]:=by
 have:=gE (F:=fun _ _ _=>True) (ρ:=fun _=>none) z.toList;rw[h]at this;simp only[VL,V]at this;obtain⟨⟨u,e,f⟩,⟨v,j,p⟩,_⟩:=this;have hl:=congrArg List.length h;simp only[List.length_map,Array.length_toList,List.length_cons,List.length_nil]at hl;subst f p;refine Array.ext' (List.ext_getElem? fun i=>?_);match i with
 | 0=>exact e
 | 1=>exact j
 | i+2=>rw[List.getElem?_eq_none (by simp;omega),List.getElem?_eq_none (by simp)]
theorem zj(m:Mem Bw w0 ρ φ h w)(hn:ρ new=none){o:Oper}{a:Act}{t e J:TypeId}{ti L:TI}(ht:aN P t ti)(hk:ti.k = .sl e)(M:aN P e L)(hz:L.z=[.lit (.map none),.nils])(B:L.size=2)
  {lo co:Operand} (ho:o.op = .makeSlice t lo co) {β N:Bool} {kl kc:IntKind} {l c:Int} (hl:V (Fr (own φ h) Bw w) ρ (.p β (.int kl) l) (a.eval lo)) (hc:V (Fr (own φ h) Bw w) ρ (.p N (.int kc) c) (a.eval co))
  (h1:0≤l) (h2:l≤c) (h3:(L.bytes:Int)*c≤281474976710656) (h4:c≤9223372036854775807) :
  Good P o a w (aF Bw w0 ρ φ h w new (.sl new) [(new,some (.nds e J (List.replicate l.toNat Nd.z) none))]):=by
 obtain⟨i,z,hi,O,x,u,C,a3,a4⟩:=M.hi;have hu:=aX ht hk;have D:=run_make (P:=P) w t e i z hu hi O kl kc l c h1 h2 (by rw[u];exact h3) h4;refine Good.aG (v:=_) (w':=_) (by simp only[execOp,ho,bX hl,bX hc,Sem.run_bind,D,Result.andThen_ok];rfl) ?_;have hm:(madeCells z.cells (c.toNat*i.size)).size=c.toNat*i.size:=size_madeCells _ _;have A:i.size=2:=by rw[x,B]
 rw[hz]at C;have X:=F1 C;have q:∀j (f:Bool),j<l.toNat→((madeCells z.cells (c.toNat*i.size)).toList.take (l.toNat*2))[j*2+f.toNat]? = some (if f then .slice none 0 0 else .map none):=fun j f Y=>by
  have hf:f.toNat<2:=by cases f <;> decide
  rw[List.getElem?_take,if_pos (by omega)];have Z:j*2+f.toNat<c.toNat*i.size:=by rw[A];omega
  have E:(madeCells z.cells (c.toNat*i.size)).toList[j*2+f.toNat]? = some (z.cells[(j*2+f.toNat) % z.cells.size]!):=by simp[madeCells,Z]
  rw[E,X];have:(j*2+f.toNat) % 2=f.toNat:=by omega
  show some ((#[Value.map none,.slice none 0 0])[(j*2+f.toNat) % 2]!)=_;rw[this];cases f <;> rfl
 refine cV m none new (.nds e J (List.replicate l.toNat Nd.z) none) (.slice (some ⟨w.heap.size,0,none⟩) l.toNat c.toNat) none (World.grownBy_alloc w _ none) (fun k e=>by cases e) (.inl hn) (fun _ k hk=>?_) (fun F' a1 hF a2=>?_) (by rw[bp];rfl) (fun _=>rfl) (fun F' a1 hF a2 I=>?_)
 ·simp only[dx,Option.some.injEq]at hk;exact .inl (by omega)
 ·refine⟨fun _ h=>h,fun _ _ _ e=>(by cases e),(madeCells z.cells (c.toNat*i.size)).toList.take (l.toNat*2),⟨?_,.inr ⟨w.heap.size,c.toNat,madeCells z.cells (c.toNat*i.size),?_,Nat.zero_le _,heap_alloc_new w _,?_,?_,?_,?_⟩⟩,fun j f Y=>?_,fun r f r' f' vr a5 b _ _ _ E J b1=>?_⟩
  ·simp only[List.length_take,Array.length_toList,hm,List.length_replicate];rw[A];omega
  ·simp
  ·simp;omega
  ·unfold maxLen;omega
  ·rw[hm,A]
  ·simp
  ·simp only[List.length_replicate]at Y;refine⟨_,q j f Y,?_,fun _=>⟨?_,fun k hk=>?_⟩,fun id e=>by cases e⟩
   ·cases f
    ·exact⟨_,rfl⟩
    ·exact⟨_,_,_,rfl⟩
   ·simp only[List.getElem_replicate];cases f
    ·exact⟨fun k hk=>by simp[dx]at hk,rfl,rfl⟩
    ·exact⟨fun k hk=>by simp[dx]at hk,World.ownsRow_nil _ 0 J 1⟩
   ·cases f <;> simp[dx]at hk
  ·have hr:r<l.toNat:=by have:=(List.getElem?_eq_some_iff.1 E).1;simp only[List.length_take]at this;cases f <;> simp at this <;> omega
   rw[q r f hr]at E;cases E;cases f <;> simp[dx]at b1
 ·simp only[V];exact⟨I,_,_,_,rfl⟩
theorem BI(m:Mem Bw w0 ρ φ h w)(hn:ρ new=none){o:Oper}{a:Act}{t e:TypeId}{ti te:TI}(ht:aN P t ti)(hk:ti.k = .sl e)(a8:aN P e te)(a9:te.size=2)
  {xo yo:Operand} {id r:Nat} (Z:V (Fr (own φ h) Bw w) ρ (.sl id) (a.eval xo)) (hy:V (Fr (own φ h) Bw w) ρ (.sl r) (a.eval yo)) (ho:o.op = .call { callee:= .builtin .append,args:= #[xo,yo],argTypes:= #[t,t] })
  {X:TypeId} {p:List Nd} (hi:h id=some (.nds e X p none)) (hr:h r=some (.vrow 1 2 [.lit (.map none),.nils])) (hb:(p.length+1)*te.bytes≤140737488355328) (b9:p.length+1≤9223372036854775807) :
  Good P o a w (aF Bw w0 ρ φ h w new (.sl new) [(id,none),(new,some (.nds e X (p++[Nd.z]) none))]):=by
 obtain⟨i,z,ac,hz,x,C,bi,ax,bs⟩:=a8.hi;have hu:=aX ht hk;have L:i.size=2:=by rw[x,a9]
 obtain⟨v,q1,hs,_,cells,A,h4,h5⟩:=m.ob id _ hi;obtain⟨y,q2,g,t',arr,rfl,_,r1,r2,_,r4⟩:=m.ob r _ hr;simp only[V]at Z hy;obtain⟨Z,_⟩:=Z;obtain⟨hy,_⟩:=hy;rw[q1]at Z;rw[q2]at hy;have b3:=Option.some.inj Z;have b4:=Option.some.inj hy;obtain⟨aa,nn,cc,D⟩:∃aa nn cc,v = .slice aa nn cc:=by rcases A.2 with⟨e,_⟩ | ⟨g,cap,a1,e,_⟩ <;> exact⟨_,_,_,e⟩
 simp only[VL,V]at r4;obtain⟨⟨_,c0,rfl⟩,⟨_,c1,rfl⟩,_⟩:=r4;have M:∀j u,([.map none,.slice none 0 0]:QY)[j]? = some u→w.cell? ((⟨g,0,none⟩:Addr).add j)=some u:=fun j u hj=>by
  rw[cr,Nat.zero_add];simp only[World.cell?,r1];match j,hj with
  | 0,hj=>cases hj;exact c0
  | 1,hj=>cases hj;exact c1
 obtain⟨v',w',a2,h2,h3,h6⟩:=mO (P:=P) (t:=t) (ty:=o.type) hu ac hz (by rw[ax,x]) (by omega) (v:=v) (n:=p.length) (xs:=cells) (by rw[L];exact A) (ad:=⟨g,0,none⟩) (len:=1) (c:=1) (news:=[.map none,.slice none 0 0])
  (by rw[L];rfl) M (fun u hu=>by simp at hu;rcases hu with rfl | rfl <;> rfl) (by unfold maxLen;omega) (by rw[C];exact hb)
 rw[L]at h2;obtain⟨bv,bx,c2,B⟩:∃aa nn cc,v' = .slice aa nn cc:=by rcases h2.2 with⟨e,_⟩ | ⟨g,cap,a1,e,_⟩ <;> exact⟨_,_,_,e⟩
 have N:∀q f,mL none q f:=fun _ _ _ _ _ e=>by cases e
 have O:∀k,φ id k→k<w.heap.size:=fun k hk=>m.lt id _ k hi rfl hk
 refine Good.aG (v:=v') (w':=w') ?_ ?_
 ·simp only[execOp,ho,resolve,invoke,builtin,Sem.run_bind,Sem.run_pure,Result.andThen_ok,List.map_toArray,List.map_cons,List.map_nil,←b3,←b4,a2]
 refine dY m (some id) new (.nds e X (p++[Nd.z]) none) v' (fun k=>φ id k∨dx v'=some k) v.ownBlock h3 (fun k hk=>⟨id,_,rfl,hi,rfl,hs k (by rw[cF D];exact hk)⟩) (.inl hn)
  (fun _ k hk=>?_) (fun _ k hk=>?_) (fun F' b5 hF b6=>?_) (by rw[rJ];rfl) (fun _=>rfl) (fun F' b5 hF b6 a3=>by simp only[V];exact⟨a3,_,_,_,B⟩)
 ·rcases hk with hk | hk
  ·exact Nat.lt_of_lt_of_le (O k hk) h3.size
  ·rcases h2.2 with⟨e,_⟩ | ⟨g',cap,a1,e,_,hh,_⟩
   ·rw[e]at hk;simp[dx]at hk
   ·rw[e]at hk;simp only[dx,Option.some.injEq]at hk;subst hk;rcases Nat.lt_or_ge g' w'.heap.size with q | q
    ·exact q
    ·rw[Array.getElem?_eq_none q]at hh;cases hh
 ·rcases hk with hk | hk
  ·exact .inr ⟨id,_,rfl,hi,rfl,hk⟩
  ·rcases h6 k (by rw[←cF B];exact hk)with q | q
   ·exact .inl q
   ·exact .inr ⟨id,_,rfl,hi,rfl,hs k (by rw[cF D];exact q)⟩
 have E:(p++[Nd.z]).length=p.length+1:=by simp
 have c3:=A.1;refine⟨fun k hk=> .inr hk,fun _ _ _ e=>(by cases e),cells++[.map none,.slice none 0 0],by rw[E];exact h2,fun q f hq=>?_,fun q f q' f' Y a4 b b7 _ _ e1 X b1 b2=>?_⟩
 ·rw[E]at hq;rcases Nat.lt_or_ge q p.length with a5 | c4
  ·obtain⟨Y,p1,p2,p3,_⟩:=h4 q f a5;obtain⟨p4,p5⟩:=p3 (N q f);have hin:∀k,dx Y=some k→φ id k:=by cases f <;> exact p4.1
   have a6:∀k,dx Y=some k→w'.heap[k]? = w.heap[k]? :=fun k hk=>h3.block k (O k (hin k hk)) (fun e=>p5 k hk (by rw[cF D,←e]))
   refine⟨Y,by rw[List.getElem?_append_left (List.getElem?_eq_some_iff.1 p1).1];exact p1,p2,fun _=>⟨?_,fun k hk e=>?_⟩,fun j e=>by cases e⟩
   ·rw[List.getElem_append_left a5];cases f with
    | false=>exact⟨fun k hk=> .inl (hin k hk),p4.2.mono a6⟩
    | true=>exact⟨fun k hk=> .inl (hin k hk),fL a6 p4.2⟩
   ·rcases h6 k (by rw[←cF B];exact e)with q | q
    ·have:=O k (hin k hk);omega
    ·exact p5 k hk (by rw[cF D];exact q)
  ·obtain rfl:q=p.length:=by omega
   refine⟨if f then .slice none 0 0 else .map none,?_,?_,fun _=>⟨?_,fun k hk=>?_⟩,fun j e=>by cases e⟩
   ·rw[List.getElem?_append_right (by omega),show p.length*2+f.toNat - cells.length=f.toNat by omega];cases f <;> rfl
   ·cases f
    ·exact⟨_,rfl⟩
    ·exact⟨_,_,_,rfl⟩
   ·rw[List.getElem_append_right (by omega)];simp only[Nat.sub_self,List.getElem_cons_zero];cases f
    ·exact⟨fun k hk=>by simp[dx]at hk,rfl,rfl⟩
    ·exact⟨fun k hk=>by simp[dx]at hk,World.ownsRow_nil _ 0 X 1⟩
   ·cases f <;> simp[dx]at hk
 ·have I:∀q (f:Bool) v b,(cells++[Value.map none,.slice none 0 0])[q*2+f.toNat]? = some v→dx v=some b→cells[q*2+f.toNat]? = some v:=fun q f v b J a7=>by
   rcases Nat.lt_or_ge (q*2+f.toNat) cells.length with hl | hl
   ·rwa [List.getElem?_append_left hl]at J
   ·rw[List.getElem?_append_right hl]at J;generalize q*2+f.toNat - cells.length=d at J;match d,J with
    | 0,J=>cases J;simp[dx]at a7
    | 1,J=>cases J;simp[dx]at a7
  exact h5 q f q' f' Y a4 b b7 (N _ _) (N _ _) (I q f Y b e1 b1) (I q' f' a4 b X b2) b1 b2
/-! ### Maps b8 c5 be none -/
theorem FR(m:Mem Bw w0 ρ φ h w){id:Nat}{b:Bool}{e:Qq}(hi:h id=some (.mpq b e)){v:Value}(f:V (Fr (own φ h) Bw w) ρ (.mp id) v):Cs w b e v:=by
 obtain⟨u,j,_,_,p⟩:=m.ob id _ hi;simp only[V]at f;rw[f.1]at j;cases j;exact p
theorem CZ(m:Mem Bw w0 ρ φ h w){o:Oper}{a:Act}{t D E:TypeId}{ti I J:TI}(ht:aN P t ti)(hk:ti.k = .mp D E)(e:aN P D J)(f:J.k = .int .i32)(j:aN P E I)(hT:I.T=some (.int .i64))
  {L u:Operand} {q:Bool} (M:o.op = .lookup t L u q) {id:Nat} {b:Bool} {N:Qq} (hi:h id=some (.mpq b N)) (Y:V (Fr (own φ h) Bw w) ρ (.mp id) (a.eval L)) {v:Bool} {i:Int} (x:V (Fr (own φ h) Bw w) ρ (.p v (.int .i32) i) (a.eval u)) :
  Good P o a w (aF Bw w0 ρ φ h w new (yT .i64 q (bg (α:=Int) (.int .i32) N i)) []):=by
 have O:a.eval u=aS (.int .i32) i:=rj rfl rfl x;have X:=FR m hi Y;cases b with
 | false =>
  obtain⟨z,rfl⟩:=X;exact look_nil m ht hk e f j hT M z O
 | true =>
  obtain⟨r,Z,cl,z,hb,_,A,B,C⟩:=X;exact Dw m ht hk e f j hT M z O hb A B C
theorem yG(d:Nat){t k e:TypeId}(h:P.underlying t=some (.map k e))(r:QJ):(Op.equalIn (d+1) t (.map r) (.map none)).run P w = .ok r.isNone w:=by
 cases r <;> simp[Op.equalIn,run_underlying h]
theorem Gr(m:Mem Bw w0 ρ φ h w){o:Oper}{a:Act}{t A B C:TypeId}{ti:TI}(ht:aN P t ti)(hk:ti.k = .mp A B){op:BinOp}{xo yo:Operand}(D:o.op = .binOp op t xo yo C){id:Nat}{b:Bool}{E:Qq}
  (hi:h id=some (.mpq b E)) (I:V (Fr (own φ h) Bw w) ρ (.mp id) (a.eval xo)) (p:V (Fr (own φ h) Bw w) ρ (.lit (.map none)) (a.eval yo)) {r:ag} (J:GW op (!b)=some r):Good P o a w (aF Bw w0 ρ φ h w new r []):=by
 have x:=FR m hi I;simp only[V]at p;obtain⟨d,L,f⟩:=ht.hu;rw[hk]at f;simp only[UK]at f;subst f;obtain⟨q,M,j⟩:∃q:QJ,a.eval xo = .map q∧q.isNone = !b:=by
  cases b with
  | false=>exact⟨none,x.1,rfl⟩
  | true=>obtain⟨r,_,_,e,_⟩:=x;exact⟨some r,e,rfl⟩
 obtain⟨z,N,g2⟩:=rG (P:=P) (w:=w) (F:=Fr (own φ h) Bw w) (ρ:=ρ) (xo:=xo) (yo:=yo) J (bL (by intro O e;cases e) (by intro e;cases e)) (u:= .map q) (v:= .map none) (t:=t) (by
  unfold Op.equal Op.maxDepth;rw[←j];exact yG 9999 L q) ⟨rfl,rfl⟩
 exact Good.aG (v:=z) (w':=w) (by simp only[execOp,D,M,p];rw[Sem.run_bind,N];rfl) (aF.pure m g2)
theorem aF.as{x:ag}{u:gZ}{v:Value}{w':World}(E:aF Bw w0 ρ φ h w new x u v w'){i:Nat}{o j:Obj}(hi:apply u h i=some o)(hl:o.live=true)(z:j.live=true)(hc:∀F ρ S w u,OR F ρ S w o u→OR F ρ S w j u):
  aF Bw w0 ρ φ h w new x (u++[(i,some j)]) v w':=by
 obtain⟨B,C,I,J,L,M,N⟩:=E;obtain⟨O,D⟩:=I.as hi hl z hc;have e:apply (u++[(i,some j)]) h=bF (apply u h) i (some j):=by rw[eU];rfl
 exact⟨B,C,by rw[e];exact O,by rw[e];exact fun β a v X=>D _ _ _ (J _ _ _ X),L,M,by rw[e];exact V.mono D (fun _ _ h=>h) N⟩
theorem HS{F:Bool→Addr→Value→Prop}{ρ:Nat→QW}{S:Nat→Prop}{w:World}{j:Qq}{u:Value}(h:OR F ρ S w (.mpq true j) u):OR F ρ S w (.mpo (.int .i32) (.int .i64) j) u:=by
 obtain⟨z,_,r,e,B,rfl,hb,hB,p,f,q⟩:=h;refine⟨r,e,B,rfl,z r rfl,hb,⟨rfl,hB⟩,p,q,fun i hi=>?_⟩;have hl:e.size=j.length:=by have:=congrArg List.length f;simpa using this
 have v:e[i]? = some e[i]:=Array.getElem?_eq_getElem (by omega);refine⟨e[i],v,?_⟩;have:=congrArg (fun l=>l[i]?) f;simp only[List.getElem?_map,Array.getElem?_toList,v,List.getElem?_eq_getElem hi,Option.map_some,Option.some.injEq]at this;rw[this];exact⟨rfl,rfl,fun _=>rfl,fun h=>by cases h⟩
theorem HT{F:Bool→Addr→Value→Prop}{ρ:Nat→QW}{S:Nat→Prop}{w:World}{f:Qq}{u:Value}(h:OR F ρ S w (.mpo (.int .i32) (.int .i64) f) u):OR F ρ S w (.mpq true f) u:=by
 obtain⟨p,j⟩:=Bm h;have q:=j;obtain⟨r,_,_,e,_⟩:=q;exact⟨p,⟨_,e⟩,j⟩
theorem EO(m:Mem Bw w0 ρ φ h w){o:Oper}{a:Act}{t f N:TypeId}{ti J:TI}(ht:aN P t ti)(hk:ti.k = .mp f N)(j:aN P f J)(q:J.k = .int .i32)
  {L u z:Operand} (O:o.op = .mapUpdate t L u z) {id:Nat} {b:Bool} {e:Qq} (hi:h id=some (.mpq b e)) (X:V (Fr (own φ h) Bw w) ρ (.mp id) (a.eval L)) {β B:Bool} {i n:Int} (C:V (Fr (own φ h) Bw w) ρ (.p B (.int .i32) i) (a.eval u))
  (Y:V (Fr (own φ h) Bw w) ρ (.p β (.int .i64) n) (a.eval z)) (hb:b=true) :
  Good P o a w (aF Bw w0 ρ φ h w new .unk [(id,some (.mpo (.int .i32) (.int .i64) e)),(id,some (.mpo (.int .i32) (.int .i64) (cO (α:=Int) (.int .i32) e i n))),(id,some (.mpq true (cO (α:=Int) (.int .i32) e i n)))]):=by
 subst hb;obtain⟨Z,M⟩:=m.as hi rfl rfl (fun _ _ _ _ _=>HS);have D:hH P f (.int .i32):=hH.D6 j (by rw[q];rfl);have e2:a.eval u=aS (.int .i32) i:=rj rfl rfl C;have E:V (Fr (own φ (bF h id (some (.mpo (.int .i32) (.int .i64) e)))) Bw w) ρ (.p false (.int .i64) n) (a.eval z):=by rw[bX Y];exact dH _ _ _
 have hg:=lI (new:=new) Z ht hk D (A:= .int .i64) (.inl O) (us:=[]) (aB _ _ _) (aB _ _ _) (V.mono M (fun _ _ h=>h) X) e2 E rfl rfl (x:=n) rfl;refine fun K Q I=>hg K Q fun v w' hp=>I v w' ?_
 exact aF.as (aF.after (u1:=[(id,some (.mpo (.int .i32) (.int .i64) e))]) rfl M hp) (o:= .mpo (.int .i32) (.int .i64) (cO (α:=Int) (.int .i32) e i n)) (by rw[eU];exact aB _ _ _) rfl rfl (fun _ _ _ _ _=>HT)
end
def zi(tb:bU)(t:TypeId):Option (TypeId×TI) :=
 match tb.find t with
 | some ti=>match ti.k with
  | .sl e=>match tb.find e with
   | some f=>some (e,f)
   | none=>none
  | _=>none
 | none=>none
theorem iw{P:Program}{tb:bU}(f:cg P tb){t e:TypeId}{p:TI}(h:zi tb t=some (e,p)):∃ti,aN P t ti∧ti.k = .sl e∧aN P e p:=by
 unfold zi at h;split at h
 ·rename_i ti ht;split at h
  ·rename_i u hk;split at h
   ·rename_i q j;cases h;exact⟨ti,f.find ht,hk,f.find j⟩
   ·cases h
  ·cases h
 ·cases h
def Fv(tb:bU)(t:TypeId)(x:ag)(h:Nat→Qz):Qk :=
 match x with
 | .adr id i 2 off=>match h id with
  | some (.nds _ _ _ (some (k,f,j)))=>match tb.find t with
   | some ti=>if ti.k.agg=false∧off=f.toNat then some (xV f j,[],i=k)else none
   | none=>none
  | _=>none
 | _=>none
def IL:ag→Option (Bool×Nat)
 | .mp r=>some (false,r)
 | .sl r=>some (true,r)
 | _=>none
def Jv(e:Option (Nat×Bool×Nat))(i:Nat)(f:Bool)(n:Nat):Prop :=
 match e with
 | none=>i<n
 | some (k,g,_)=>k=i∧g=f
def Cn(tb:bU)(t:TypeId)(x y:ag)(h:Nat→Qz):Qk :=
 match x with
 | .adr id i 2 off=>match h id with
  | some (.nds e p j q)=>match tb.find t with
   | some ti=>match IL y with
    | some (f,r)=>if ti.size=1∧off=f.toNat then some (.unk,[(id,some (.nds e p j (some (i,f,r))))],Jv q i f j.length)else none
    | none=>none
   | none=>none
  | _=>none
 | _=>none
def CA(tb:bU)(t:TypeId)(x i:ag)(h:Nat→Qz):Qk :=
 match x with
 | .sl id=>match h id with
  | some (.nds _ _ e _)=>match i with
   | .p _ (.int _) n=>match zi tb t with
    | some (_,f)=>if f.size=2 then some (.adr id (show Int from n).toNat 2 0,[],0≤(show Int from n)∧(show Int from n)<(e.length:Int))else none
    | none=>none
   | _=>none
  | _=>none
 | _=>none
def JE(tb:bU)(op:BinOp)(t:TypeId)(x y:ag)(h:Nat→Qz):Qk :=
 match x,y with
 | .mp id,.lit (.map none)=>match h id with
  | some (.mpq b _)=>match tb.find t with
   | some ti=>match ti.k with
    | .mp _ _=>match GW op (!b)with
     | some r=>some (r,[],True)
     | none=>none
    | _=>none
   | none=>none
  | _=>none
 | _,_=>none
def GQ(tb:bU)(t:TypeId)(x k:ag)(e:Bool)(h:Nat→Qz):Qk :=
 match x,k with
 | .mp id,.p _ (.int .i32) i=>match h id with
  | some (.mpq _ f)=>match tb.find t with
   | some ti=>match ti.k with
    | .mp j q=>match tb.find j,tb.find q with
     | some u,some v=>match u.k with
      | .int .i32=>if v.T=some (.int .i64)then some (yT .i64 e (bg (α:=Int) (.int .i32) f i),[],True)else none
      | _=>none
     | _,_=>none
    | _=>none
   | none=>none
  | _=>none
 | _,_=>none
def JK(tb:bU)(t:TypeId)(x k y:ag)(h:Nat→Qz):Qk :=
 match x with
 | .mp id=>match k,y with
  | .p _ (.int .i32) i,.p _ (.int .i64) n=>match h id with
   | some (.mpq b e)=>match tb.find t with
    | some ti=>match ti.k with
     | .mp f _=>match tb.find f with
      | some j=>match j.k with
       | .int .i32=>some (.unk,[(id,some (.mpo (.int .i32) (.int .i64) e)),(id,some (.mpo (.int .i32) (.int .i64) (cO (α:=Int) (.int .i32) e i n))),(id,some (.mpq true (cO (α:=Int) (.int .i32) e i n)))],b=true)
       | _=>none
      | none=>none
     | _=>none
    | none=>none
   | _=>none
  | _,_=>none
 | _=>none
def GM(tb:bU)(e:TI):Option TypeId :=
 match e.z with
 | [.lit (.map none),.nils]=>if e.size=2 then(match e.k with
  | .st [_,(1,f)]=>match tb.find f with
   | some ti=>match ti.k with
    | .sl j=>some j
    | _=>none
   | none=>none
  | _=>none)else none
 | _=>none
theorem BA{tb:bU}{e:TI}{f:TypeId}(h:GM tb e=some f):e.z=[.lit (.map none),.nils]∧e.size=2:=by
 unfold GM at h;split at h
 ·rename_i hz;split at h
  ·rename_i j;exact⟨hz,j⟩
  ·cases h
 ·cases h
def IN(fl:Bool)(tb:bU)(new:Nat)(t:TypeId)(l c:ag):Qk :=
 match fl with
 | true=>match zi tb t with
  | some (e,f)=>match GM tb f with
   | some j=>match l,c with
    | .p _ (.int _) n,.p _ (.int _) k=>some (.sl new,[(new,some (.nds e j (List.replicate (show Int from n).toNat Nd.z) none))],0≤(show Int from n)∧(show Int from n)≤k∧(f.bytes:Int)*k≤281474976710656∧(show Int from k)≤9223372036854775807)
    | _,_=>none
   | none=>none
  | none=>none
 | false=>none
def Jf(tb:bU)(t:TypeId)(x:ag)(h:Nat→Qz):Qk :=
 match x with
 | .sl id=>match h id with
  | some (.nds _ _ e _)=>match zi tb t with
   | some _=>some (.p false (.int .i64) (e.length:Int),[],True)
   | none=>none
  | _=>none
 | _=>none
def isNode:List ag→Bool
 | [.lit (.map none),.nils]=>true
 | _=>false
theorem E0{e:List ag}(h:isNode e=true):e=[.lit (.map none),.nils]:=by
 unfold isNode at h;split at h
 ·rfl
 ·cases h
def JW(tb:bU)(new:Nat)(t u:TypeId)(x y:ag)(h:Nat→Qz):Qk :=
 match x,y with
 | .sl id,.sl r=>match h id,h r with
  | some (.nds e p f none),some (.vrow 1 2 q)=>if isNode q=true∧u=t then(match zi tb t with
   | some (v,j)=>if v=e∧j.size=2 then some (.sl new,[(id,none),(new,some (.nds e p (f++[Nd.z]) none))],(f.length+1)*j.bytes≤140737488355328∧f.length+1≤9223372036854775807)else none
   | none=>none)else none
  | _,_=>none
 | _,_=>none
def pC(tb:bU)(new:Nat)(fl:Bool)(op:Op)(s:Nat→ag)(h:Nat→Qz):Qk :=
 match op with
 | .load t x=>Fv tb t (ev s x) h
 | .store t x y=>Cn tb t (ev s x) (ev s y) h
 | .indexAddr t x i=>CA tb t (ev s x) (ev s i) h
 | .binOp op t x y _=>JE tb op t (ev s x) (ev s y) h
 | .lookup t x k e=>GQ tb t (ev s x) (ev s k) e h
 | .mapUpdate t x k y=>JK tb t (ev s x) (ev s k) (ev s y) h
 | .makeSlice t l c=>IN fl tb new t (ev s l) (ev s c)
 | .call c=>match c.callee with
  | .builtin .len=>match c.args.toList,c.argTypes.toList with
   | [x],[t]=>Jf tb t (ev s x) h
   | _,_=>none
  | .builtin .append=>match c.args.toList,c.argTypes.toList with
   | [x,y],[t,u]=>JW tb new t u (ev s x) (ev s y) h
   | _,_=>none
  | _=>none
 | _=>none
section
variable{P:Program}{tb:bU}{Bw:Nat→Prop}{w0:cw P}{ρ:Nat→QW}{φ:Nat→Nat→Prop}{h:Nat→Qz}{w:World}{new:Nat}{n:NS}{s:Nat→ag}{a:Act}
theorem ES(z:cg P tb)(m:Mem Bw w0 ρ φ h w)(B:eT n (Fr (own φ h) Bw w) ρ s a)(hn:ρ new=none){o:Oper}{fl:Bool}{x:ag}{u:gZ}{c:Prop}
  (hd:pC tb new fl o.op s h=some (x,u,c)) (hc:c):Good P o a w (aF Bw w0 ρ φ h w new x u):=by
 unfold pC at hd;split at hd
 ·-- load
  rename_i t C D;have A:=aV B C;unfold Fv at hd;split at hd
  ·rename_i id i off ex;rw[ex]at A;split at hd
   ·rename_i e e2 ns k f j v;split at hd
    ·rename_i ti ht;split at hd
     ·rename_i hq;obtain⟨I,rfl⟩:=hq;cases hd;exact zb m (z.find ht) I A D v hc
     ·cases hd
    ·cases hd
   ·cases hd
  ·cases hd
 ·-- store
  rename_i t C M D;have A:=aV B C;have J:=aV B M;unfold Cn at hd;split at hd
  ·rename_i id i off ex;rw[ex]at A;split at hd
   ·rename_i e e2 ns hole v;split at hd
    ·rename_i ti ht;split at hd
     ·rename_i f r hp;split at hd
      ·rename_i hq;obtain⟨I,rfl⟩:=hq;cases hd;have a2:V (Fr (own φ h) Bw w) ρ (xV f r) (a.eval M):=by
        unfold IL at hp;split at hp
        ·rename_i e;cases hp;rw[e]at J;exact J
        ·rename_i e;cases hp;rw[e]at J;exact J
        ·cases hp
       obtain⟨_,_,_,a5,_⟩:=m.ob id _ v;cases hole with
       | none=>exact pS m (z.find ht) I A a2 D v hc (fun k g j e=>by cases e)
       | some p =>
        obtain⟨k,g,j⟩:=p;obtain⟨rfl,rfl⟩:=hc;exact pS m (z.find ht) I A a2 D v (a5 _ _ _ rfl) (fun k g j e=>by cases e;exact⟨rfl,rfl⟩)
      ·cases hd
     ·cases hd
    ·cases hd
   ·cases hd
  ·cases hd
 ·-- index
  rename_i t C io D;have A:=aV B C;have hi:=aV B io;unfold CA at hd;split at hd
  ·rename_i id ex;rw[ex]at A;split at hd
   ·rename_i e e2 ns hole v;split at hd
    ·rename_i β k n ei;rw[ei]at hi;split at hd
     ·rename_i e' te E;split at hd
      ·rename_i N;cases hd;obtain⟨ti,I,O,h3⟩:=iw z E;exact wV m I O h3 N A v hi D hc.1 hc.2
      ·cases hd
     ·cases hd
    ·cases hd
   ·cases hd
  ·cases hd
 ·-- binOp
  rename_i op t C M t' D;have A:=aV B C;have J:=aV B M;unfold JE at hd;split at hd
  ·rename_i id ex ey;rw[ex]at A;rw[ey]at J;split at hd
   ·rename_i b kv v;split at hd
    ·rename_i ti ht;split at hd
     ·rename_i kt et hk;split at hd
      ·rename_i r hr;cases hd;exact Gr m (z.find ht) hk D v A J hr
      ·cases hd
     ·cases hd
    ·cases hd
   ·cases hd
  ·cases hd
 ·-- lookup
  rename_i t C ko aa D;have A:=aV B C;have hk:=aV B ko;unfold GQ at hd;split at hd
  ·rename_i id β i ex ek;rw[ex]at A;rw[ek]at hk;split at hd
   ·rename_i b kv v;split at hd
    ·rename_i ti ht;split at hd
     ·rename_i kt et X;split at hd
      ·rename_i tk te Y a6;split at hd
       ·rename_i L;split at hd
        ·rename_i hT;cases hd;exact CZ m (z.find ht) X (z.find Y) L (z.find a6) hT D v A hk
        ·cases hd
       ·cases hd
      ·cases hd
     ·cases hd
    ·cases hd
   ·cases hd
  ·cases hd
 ·-- mapUpdate
  rename_i t C ko M D;have A:=aV B C;have hk:=aV B ko;have J:=aV B M;unfold JK at hd;split at hd
  ·rename_i id ex;rw[ex]at A;split at hd
   ·rename_i β i a7 n ek ey;rw[ek]at hk;rw[ey]at J;split at hd
    ·rename_i b kv v;split at hd
     ·rename_i ti ht;split at hd
      ·rename_i kt et X;split at hd
       ·rename_i tk Y;split at hd
        ·rename_i L;cases hd;exact EO m (z.find ht) X (z.find Y) L D v A hk J hc
        ·cases hd
       ·cases hd
      ·cases hd
     ·cases hd
    ·cases hd
   ·cases hd
  ·cases hd
 ·-- makeSlice
  rename_i t lo co D;have hl:=aV B lo;have a3:=aV B co;unfold IN at hd;split at hd
  ·split at hd
   ·rename_i e te E;split at hd
    ·rename_i e2 a8;split at hd
     ·rename_i β k n a7 k' n' el ec;rw[el]at hl;rw[ec]at a3;cases hd;obtain⟨ti,I,O,h3⟩:=iw z E;obtain⟨h4,h5⟩:=BA a8;exact zj m hn I O h3 h4 h5 D hl a3 hc.1 hc.2.1 hc.2.2.1 hc.2.2.2
     ·cases hd
    ·cases hd
   ·cases hd
  ·cases hd
 ·-- call
  rename_i c0 D;obtain⟨callee,args,a4⟩:=c0;simp only at hd;split at hd
  ·split at hd
   ·rename_i C t ea et;have Z:args = #[C]:=Array.ext' ea;have a1:a4 = #[t]:=Array.ext' et;subst Z a1;have A:=aV B C;unfold Jf at hd;split at hd
    ·rename_i id ex;rw[ex]at A;split at hd
     ·rename_i e e2 ns hole v;split at hd
      ·rename_i q E;obtain⟨e',te⟩:=q;cases hd;obtain⟨ti,I,O,h3⟩:=iw z E;exact Bh m I O A v D
      ·cases hd
     ·cases hd
    ·cases hd
   ·cases hd
  ·split at hd
   ·rename_i C M t u' ea et;have Z:args = #[C,M]:=Array.ext' ea;have a1:a4 = #[t,u']:=Array.ext' et;subst Z a1;have A:=aV B C;have J:=aV B M;unfold JW at hd;split at hd
    ·rename_i id r ex ey;rw[ex]at A;rw[ey]at J;split at hd
     ·rename_i e e2 ns cs v hr;split at hd
      ·rename_i hq;obtain⟨I,rfl⟩:=hq;obtain rfl:=E0 I;split at hd
       ·rename_i e' te E;split at hd
        ·rename_i a9;obtain⟨rfl,N⟩:=a9;cases hd;obtain⟨ti,I,O,h3⟩:=iw z E;exact BI m hn I O h3 N A J D v hr hc.1 hc.2
        ·cases hd
       ·cases hd
      ·cases hd
     ·cases hd
    ·cases hd
   ·cases hd
  ·cases hd
 ·cases hd
theorem CW{s I:Nat→ag}{h h':Nat→Qz}{op:Op}{fl:Bool}(q:∀x∈op.operands.toList,ev s x=ev I x)(key:∀x∈op.operands.toList,(¬((∃x,op = .move x)∨(∃x,op = .assign x)∨(∃x,op = .nilCheck x)∨∃t x f,op = .fieldAddr t x f))→∀i∈ids (ev s x),h i=h' i):
  pC tb new fl op s h=pC tb new fl op I h':=by
 have v:∀x∈op.operands.toList,(¬((∃x,op = .move x)∨(∃x,op = .assign x)∨(∃x,op = .nilCheck x)∨∃t x f,op = .fieldAddr t x f))→∀y,ev s x=y→∀i∈ids y,h i=h' i:=fun x j C y e i hi=>key x j C i (by rw[e];exact hi)
 cases op with
 | load t x =>
  have j:=v x (by simp[Op.operands]) (by rintro(⟨_,e⟩ | ⟨_,e⟩ | ⟨_,e⟩ | ⟨_,_,_,e⟩) <;> cases e);simp only[pC,←q x (by simp[Op.operands])];unfold Fv;split
  ·rename_i id i off ex;rw[j _ ex id (by simp[ids])]
  ·rfl
 | store t x y =>
  have j:=v x (by simp[Op.operands]) (by rintro(⟨_,e⟩ | ⟨_,e⟩ | ⟨_,e⟩ | ⟨_,_,_,e⟩) <;> cases e);simp only[pC,←q x (by simp[Op.operands]),←q y (by simp[Op.operands])];unfold Cn;split
  ·rename_i id i off ex;rw[j _ ex id (by simp[ids])]
  ·rfl
 | indexAddr t x i =>
  have j:=v x (by simp[Op.operands]) (by rintro(⟨_,e⟩ | ⟨_,e⟩ | ⟨_,e⟩ | ⟨_,_,_,e⟩) <;> cases e);simp only[pC,←q x (by simp[Op.operands]),←q i (by simp[Op.operands])];unfold CA;split
  ·rename_i id ex;rw[j _ ex id (by simp[ids])]
  ·rfl
 | binOp o t x y L =>
  have j:=v x (by simp[Op.operands]) (by rintro(⟨_,e⟩ | ⟨_,e⟩ | ⟨_,e⟩ | ⟨_,_,_,e⟩) <;> cases e);simp only[pC,←q x (by simp[Op.operands]),←q y (by simp[Op.operands])];unfold JE;split
  ·rename_i id ex D;rw[j _ ex id (by simp[ids])]
  ·rfl
 | lookup t x k J =>
  have j:=v x (by simp[Op.operands]) (by rintro(⟨_,e⟩ | ⟨_,e⟩ | ⟨_,e⟩ | ⟨_,_,_,e⟩) <;> cases e);simp only[pC,←q x (by simp[Op.operands]),←q k (by simp[Op.operands])];unfold GQ;split
  ·rename_i id β i ex D;rw[j _ ex id (by simp[ids])]
  ·rfl
 | mapUpdate t x k y =>
  have j:=v x (by simp[Op.operands]) (by rintro(⟨_,e⟩ | ⟨_,e⟩ | ⟨_,e⟩ | ⟨_,_,_,e⟩) <;> cases e);simp only[pC,←q x (by simp[Op.operands]),←q k (by simp[Op.operands]),←q y (by simp[Op.operands])];unfold JK;split
  ·rename_i id ex;rw[j _ ex id (by simp[ids])]
  ·rfl
 | makeSlice t l c=>simp only[pC,q l (by simp[Op.operands]),q c (by simp[Op.operands])]
 | call c =>
  obtain⟨callee,args,E⟩:=c;have p:∀x∈args.toList,x∈(Op.call { callee,args,argTypes:=E }).operands.toList:=fun x j=>by simp only[Op.operands,Call.operands,Array.toList_append,List.mem_append];exact .inr j
  have j:∀x∈args.toList,∀y,ev s x=y→∀i∈ids y,h i=h' i:=fun x j=>v x (p x j) (by rintro(⟨_,e⟩ | ⟨_,e⟩ | ⟨_,e⟩ | ⟨_,_,_,e⟩) <;> cases e)
  simp only[pC];split
  ·split
   ·rename_i x t B _;have z:x∈args.toList:=by rw[B];simp
    rw[←q x (p x z)];unfold Jf;split
    ·rename_i id ex;rw[j x z _ ex id (by simp[ids])]
    ·rfl
   ·rfl
  ·split
   ·rename_i x y t u B _;have z:x∈args.toList:=by rw[B];simp
    have A:y∈args.toList:=by rw[B];simp
    rw[←q x (p x z),←q y (p y A)];unfold JW;split
    ·rename_i id r ex D;rw[j x z _ ex id (by simp[ids]),j y A _ D r (by simp[ids])]
    ·rfl
   ·rfl
  ·rfl
 | _=>rfl
end
end Go.Tv
