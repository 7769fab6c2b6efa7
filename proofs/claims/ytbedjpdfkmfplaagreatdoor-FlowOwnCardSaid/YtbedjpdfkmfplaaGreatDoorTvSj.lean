/- A loop over a map that takes out of it what is not used. -/
import Derived.Test.YtbedjpdfkmfplaaGreatDoorTvSdm
import Derived.Maps.RangeRun
namespace Go.Tv
open Go Go.RowKit
open Go.MapKept (run_setObj_map heap_set)
open Go.ChangeMaps (setBlock)
def aJj{A B:Type}(f:A→AVal×List (Nat×Obj))(g:B→AVal×List (Nat×Obj)):A⊕B→AVal×List (Nat×Obj)
 | .inl x=>f x
 | .inr x=>g x
def xT(K:Ty){α:Type}(kv:List (K.den×α))(us:List (K.den×Bool)):List (K.den×α):=kv.filter fun p=>(bG K us p.1).getD false
def A5(dead:List Nat)(s:Nat→AVal):Nat→AVal:=fun t=>if dead.contains t then .unk else s t
section
variable{P:Program}{tb:Tab}{n:NS}{Bw:Nat→Prop}{w0:Base P}{ρ:Nat→Option Value}{φ:Nat→Nat→Prop}{h:Nat→Option Obj}{s:Nat→AVal}{a:Act}{w:World}{o:Oper}
def aCE(P:Program)(F:Bool→Addr→Value→Prop)(ρ:Nat→Option Value)(o:Oper)(a:Act)(w:World)(x:AVal):Prop:=∃v,(execOp a.eval o).run P w = .ok (.value v) w∧V F ρ x v
variable{F:Bool→Addr→Value→Prop}
theorem mU{t:Nat}(hs:Slots n F ρ s a)(ho:o.op = .move (.tmp t)∨o.op = .assign (.tmp t)):aCE P F ρ o a w (s t) :=
 ⟨_,by rcases ho with ho | ho <;> (simp only[execOp,ho];rfl),hs.sl t⟩
theorem rU{t i:Nat}{cs:List AVal}{y:AVal}(hs:Slots n F ρ s a)(ht:s t = .tup cs)(ho:o.op = .extract (.tmp t) i)(hy:cs[i]? = some y):aCE P F ρ o a w y:=by
 have hx:=hs.sl t
 rw[ht]at hx
 simp only[V]at hx
 obtain⟨vs,e,_,hl⟩:=hx
 obtain⟨u,q1,q2⟩:=VL.get hl hy
 exact⟨u,by simp[execOp,ho,Act.eval,e,Instr.extract,q1],q2⟩
theorem aCk{t id i sz off:Nat}(hs:Slots n F ρ s a)(ht:s t = .adr id i sz off)(ho:o.op = .nilCheck (.tmp t)):aCE P F ρ o a w (.adr id i sz off):=by
 have hx:=hs.sl t
 rw[ht]at hx
 have hx':=hx
 simp only[V]at hx'
 obtain⟨g,h1,h2⟩:=hx'
 exact⟨_,by simp only[execOp,ho,Act.eval,h2];rfl,by rw[←h2];exact hx⟩
theorem U4{t id i sz k:Nat}{st:TypeId}{ti:TI}{f:Nat}(hs:Slots n F ρ s a)(ht:s t = .adr id i sz k)(ho:o.op = .fieldAddr st (.tmp t) f)(hti:TIok P st ti){fs:List (Nat×TypeId)}(hk:ti.k = .st fs){off:Nat}{ft:TypeId}(hf:fs[f]? = some (off,ft)):
  aCE P F ρ o a w (.adr id i sz (k+off)):=by
 have hx:=hs.sl t
 rw[ht]at hx
 obtain⟨d,h1,h2⟩:=hti.hu
 rw[hk]at h2
 obtain⟨fa,rfl,h3,h4⟩:=h2
 subst h3
 rw[List.getElem?_map]at hf
 obtain⟨fd,hfd,hfe⟩:∃fd,fa.toList[f]? = some fd∧(fd.offset,fd.type)=(off,ft):=by
  cases hq:fa.toList[f]? with
  | none=>rw[hq]at hf;cases hf
  | some fd=>rw[hq]at hf;exact⟨fd,rfl,by simpa using hf⟩
 cases hfe
 have hfa:fa[f]? = some fd:=by simpa using hfd
 obtain⟨j,hi,hsz⟩:=h4 fd (List.mem_of_getElem? hfd)
 simp only[V]at hx
 obtain⟨g,q1,q2⟩:=hx
 refine⟨.pointer (some ((⟨g,i*sz+k,none⟩:Addr).add fd.offset)),?_,?_⟩
 ·simp[execOp,ho,Instr.fieldAt,run_underlying h1,hfa,Act.eval,q2,Instr.sureAddr,fieldPlace,sizeOf,typeInfo,hi,hsz]
 ·simp only[V]
  exact⟨g,q1,by simp[Addr.add,Nat.add_assoc]⟩
theorem aAP(m:Mem Bw w0 ρ φ h w){t id off:Nat}{lt:TypeId}{ti:TI}{cs:List AVal}{y:AVal}(hs:Slots n (Fr (own φ h) Bw w) ρ s a){sz:Nat}(ht:s t = .adr id 0 sz off)(hb:h id=some (.box cs))(ho:o.op = .load lt (.tmp t))(hti:TIok P lt ti)(hy:fN ti cs off=some y):
  aCE P (Fr (own φ h) Bw w) ρ o a w y:=by
 have hx:=hs.sl t
 rw[ht]at hx
 obtain⟨ad,h1,h2⟩:=pF m hx (cs:=cs) (off:=off) (c:=True) (by simp only[mH,hb,Nat.zero_mul,Nat.zero_add]) trivial
 obtain⟨v,h3,h4⟩:=hZ (P:=P) hti h2 hy
 refine⟨v,?_,h4⟩
 simp[execOp,ho,Instr.loadAt,Act.eval,h1,Instr.sureAddr,h3]
theorem aHY{t ty:Nat}{β b:Bool}(hs:Slots n F ρ s a)(ht:s t = .p β .bool b)(ho:o.op = .unOp .not ty (.tmp t)):aCE P F ρ o a w (.p false .bool (!b)):=by
 have hx:=hs.sl t
 rw[ht]at hx
 obtain⟨z,h1,h2⟩:=aDv (P:=P) (w:=w) (op:= .not) (r:= .p false .bool (!b)) rfl hx
 exact⟨z,by simp only[execOp,ho,Act.eval];rw[Sem.run_bind,h1];rfl,h2⟩
theorem aCm(m:Mem Bw w0 ρ φ h w){tm tk id:Nat}{t kt et:TypeId}{ti te:TI}(hti:TIok P t ti)(hk:ti.k = .mp kt et){K:Ty}(hko:KeyOk P kt K)(hKs:K.scalar=true)(hte:TIok P et te)(hT:te.T=some .bool){us:List (K.den×Bool)}(hi:h id=some (.mpo K .bool us))
  (hs:Slots n (Fr (own φ h) Bw w) ρ s a) (h1:s tm = .mp id) {β:Bool} {k:K.den} (h2:s tk = .p β K k) (ho:o.op = .lookup t (.tmp tm) (.tmp tk) false):aCE P (Fr (own φ h) Bw w) ρ o a w (.p false .bool ((bG K us k).getD false)):=by
 have hx:=hs.sl tm
 rw[h1]at hx
 have hy:=hs.sl tk
 rw[h2]at hy
 have e2:a.tmps.getD tk undef=aZ K k:=A6 hko.isKey hKs hy
 obtain⟨r,es,clock,e1,_,_,hb,⟨hK,_⟩,hkeys,hnd,hvals⟩:=F5 m hi hx
 obtain⟨dm,hm,hmk⟩:=hti.hu
 rw[hk]at hmk
 simp only[UK]at hmk
 subst hmk
 have hks:es.toList.map (·.key)=(us.map (·.1)).map (aZ K):=by rw[hkeys,List.map_map];rfl
 obtain⟨z,hz,hz1,hz2,hz3⟩:=eC hte w
 obtain⟨hT1,hT2,hT3⟩:=hte.hT _ hT
 rcases hko.find k es.toList (us.map (·.1)) w hks with⟨g1,g2⟩ | ⟨j,e,g1,g2,g3⟩
 ·have hnone:bG K us k=none:=kM hK fun p hp e=>by
   obtain⟨j,hj⟩:=List.mem_iff_getElem?.1 hp
   have h4:(us.map (fun p=>aZ K p.1))[j]? = some (aZ K p.1):=by rw[List.getElem?_map,hj];rfl
   rw[←hkeys,List.getElem?_map]at h4
   cases hq:es.toList[j]? with
   | none=>rw[hq]at h4;cases h4
   | some x =>
    rw[hq]at h4
    simp at h4
    exact g2 x (List.mem_of_getElem? hq) (by rw[h4,e])
  rw[hnone]
  have hmv:MV (Fr (own φ h) Bw w false) .bool (Ty.bool.zero) z:=N7 hte hT hz hz1 hz2 hz3
  refine⟨z,?_,by have:=aFX (ρ:=ρ) (F:=Fr (own φ h) Bw w) hmv;exact this⟩
  simp only[execOp,ho,Act.eval]
  rw[e1,e2]
  simp[Instr.lookup,run_underlying hm,Go.MapKept.run_getObj_map hb,hko.check,g1,hz,Result.andThen]
 ·obtain⟨p,hp,hpe⟩:=lJ hkeys g2
  have hpk:p.1=k:=gI hK (by rw[←hpe,g3])
  have hsome:=m8 (α:=Bool) hK hnd hp hpk
  rw[hsome]
  have hj:j<us.length:=(List.getElem?_eq_some_iff.1 hp).1
  obtain⟨e',q1,q2⟩:=hvals j hj
  have hee:e'=e:=by
   have:es.toList[j]? = some e':=by simpa using q1
   rw[g2]at this
   cases this
   rfl
  subst hee
  have hpj:us[j]=p:=by
   rw[List.getElem?_eq_getElem hj]at hp
   simpa using hp
  rw[hpj]at q2
  refine⟨e'.val,?_,by have:=aFX (ρ:=ρ) (F:=Fr (own φ h) Bw w) q2;exact this⟩
  simp only[execOp,ho,Act.eval]
  rw[e1,e2]
  simp[Instr.lookup,run_underlying hm,Go.MapKept.run_getObj_map hb,hko.check,g1,Result.andThen]
theorem aEi{t mt k e mb:Nat}{es:Array MapEntry}{clock:Nat}(ho:o.op = .range mt (.tmp t))(ev:a.tmps.getD t undef = .map (some mb))(hm:P.underlying mt=some (.map k e))(hb:w.heap[mb]? = some (.map es clock)):
  (execOp a.eval o).run P w = .ok (.value (.pointer (some ⟨w.heap.size,0,none⟩))) (w.alloc (.mapIter (some mb) clock #[] clock)):=by
 simp only[execOp,ho,Act.eval,ev,Sem.run_bind,run_range_map w mt k e mb es clock hm hb,Result.andThen_ok]
 rfl
theorem aA1{t:Nat}{u v:Value}{w':World}(ho:o.op = .next (.tmp t) false)(ev:a.tmps.getD t undef=u)(hr:(Instr.next u false o.type).run P w = .ok v w'):(execOp a.eval o).run P w = .ok (.value v) w':=by
 simp only[execOp,ho,Act.eval,ev,Sem.run_bind,hr,Result.andThen_ok]
 rfl
theorem aEK{t:Nat}{u v:Value}{w':World}(ho:o.op = .entry (.tmp t))(ev:a.tmps.getD t undef=u)(hr:(Instr.entry u).run P w = .ok v w'):(execOp a.eval o).run P w = .ok (.value v) w':=by
 simp only[execOp,ho,Act.eval,ev,Sem.run_bind,hr,Result.andThen_ok]
 rfl
theorem aCN{t1 t2 mt kt et mb j:Nat}{es:Array MapEntry}{clock:Nat}{k v:Value}(ho:o.op = .call { callee:= .builtin .delete,args:= #[.tmp t1,.tmp t2],argTypes:= #[mt,kt] })(e1:a.tmps.getD t1 undef = .map (some mb))(e2:a.tmps.getD t2 undef=k)
  (hm:P.underlying mt=some (.map kt et)) (hb:w.heap[mb]? = some (.map es clock)) (hc:(Instr.checkKey es.isEmpty 10000 kt k).run P w = .ok () w) (hf:(Instr.findKey kt k es.toList).run P w = .ok (some (j,v)) w) :
  (execOp a.eval o).run P w = .ok (.value (.tuple #[])) (setBlock w mb (.map (es.eraseIdxIfInBounds j) clock)):=by
 simp only[execOp,ho,resolve,invoke,builtin,Sem.run_bind,Sem.run_pure,Result.andThen_ok,List.map_toArray,List.map_cons,List.map_nil,Act.eval,e1,e2]
 simp[Builtin.delete_,run_underlying hm,Go.MapKept.run_getObj_map hb,hc,hf,run_setObj_map _ hb,Result.andThen,setBlock]
theorem D5{ops:Array Oper}{i:Nat}(hi:ops[i]? = some o)(hg:o.guard=none){d:Option Nat}(hd:o.dst=d){v:Value}{w':World}(hrun:(execOp a.eval o).run P w = .ok (.value v) w'){K:Act→World→Prop}{Q:Exit→Act→World→Prop}(hk:K (a.put d v) w'):wpOp P ops Q i K a w:=by
 subst hd
 unfold wpOp
 rw[hi]
 simp only
 rw[if_pos (by unfold Region.wanted;rw[hg])]
 exact .inl (Good.of_run (post:=fun u w''=>u=v∧w''=w') hrun ⟨rfl,rfl⟩ _ _ (by rintro u w'' ⟨rfl,rfl⟩;exact hk))
theorem fM{ops:Array Oper}{i:Nat}(hi:ops[i]? = some o)(hg:o.guard=none){d:Option Nat}(hdd:o.dst=d)(hd:R5 n d=true)(hs:Slots n F ρ s a){x:AVal}(hc:aCE P F ρ o a w x){K:Act→World→Prop}{Q:Exit→Act→World→Prop}
  (hk:∀a',Slots n F ρ (eJ s d x) a'→K a' w):wpOp P ops Q i K a w:=by
 obtain⟨v,h1,h2⟩:=hc
 exact D5 hi hg hdd h1 (hk _ (hs.putD h2 hd))
end
section
variable{P:Program}{tb:Tab}{n:NS}{Bw:Nat→Prop}{w0:Base P}{ρ:Nat→Option Value}{φ:Nat→Nat→Prop}{h:Nat→Option Obj}{s:Nat→AVal}{a:Act}{w:World}
theorem aHZ{c:Code}{Q:Exit→Act→World→Prop}(Inv:Nat→Act→World→Prop)
  (hr:∀k a w,Inv k a w→c.wp P (Exit.then (fun a' w'=>∃j,j<k∧Inv j a' w') Q) a w) {k:Nat} {a:Act} {w:World} (h0:Inv k a w):(Code.loop c).wp P Q a w:=by
 have hp:∀a w,(∃k,Inv k a w)→∃k,Inv k a w∧∀m,Inv m a w→k≤m:=fun a w=>aCw (fun k=>Inv k a w)
 classical
 let μ:Act→World→Nat:=fun a w=>if h:∃k,Inv k a w then(hp a w h).choose else 0
 have hμ:∀a w (h:∃k,Inv k a w),Inv (μ a w) a w∧∀m,Inv m a w→μ a w≤m:=fun a w h=>by
  simp only[μ,dif_pos h]
  exact(hp a w h).choose_spec
 refine Go.wp_loop (fun a w=>∃k,Inv k a w) μ ⟨k,h0⟩ fun a w hi=> ?_
 obtain⟨h1,_⟩:=hμ a w hi
 refine wp_mono (hr _ a w h1) fun e a' w' hq=> ?_
 cases e with
 | normal =>
  obtain⟨j,hj,hi'⟩:=hq
  exact⟨⟨j,hi'⟩,Nat.lt_of_le_of_lt ((hμ a' w' ⟨j,hi'⟩).2 j hi') hj⟩
 | _=>exact hq
theorem Mem.foreign(m:Mem Bw w0 ρ φ h w){w':World}{r:Nat}(h1:w'.os=w.os)(h2:w'.tape=w.tape)(h3:w'.output=w.output)(h4:w.heap.size≤w'.heap.size)(hb:∀k,k<w.heap.size→k≠r→w'.heap[k]? = w.heap[k]?)
  (hr:¬own φ h r) (hk:¬w0.kp r) (hp:∀ad v,w.peek ad=some v→ad.block≠r):Mem Bw w0 ρ φ h w'∧∀β a v,Fr (own φ h) Bw w β a v→Fr (own φ h) Bw w' β a v:=by
 have hF:∀β a v,Fr (own φ h) Bw w β a v→Fr (own φ h) Bw w' β a v:=fun β a v q=>⟨q.1,q.2.1,by rw[World.peek_of_block (hb _ (World.peek_lt q.2.2) (hp _ _ q.2.2))];exact q.2.2⟩
 refine⟨⟨fun id o hid=> ?_,fun id o k q1 q2 q3=>Nat.lt_of_lt_of_le (m.lt id o k q1 q2 q3) h4,m.dj,m.bw,m.ow,⟨h1.trans m.kp.os,h2.trans m.kp.tape,h3.trans m.kp.output,Nat.le_trans m.kp.size h4,fun k q=> ?_⟩,m.pin⟩,hF⟩
 ·obtain⟨u,q1,q2⟩:=m.ob id o hid
  exact⟨u,q1,OR.mono hF (fun _ _ h=>h) (fun _ h=>h) (fun hl k hk'=>hb k (m.lt id o k hid hl hk') (fun e=>hr ⟨id,o,hid,hl,by rw[←e];exact hk'⟩)) q2⟩
 ·rw[hb k (Nat.lt_of_lt_of_le (w0.lt k q) m.kp.size) (fun e=>hk (by rw[←e];exact q))]
  exact m.kp.block k q
theorem Slots.back{F:Bool→Addr→Value→Prop}{s':Nat→AVal}(h:Slots n F ρ s' a)(hs:∀t,s t=s' t∨s t = .unk):Slots n F ρ s a:=⟨h.tm,h.df,fun t=>by
 rcases hs t with e | e
 ·rw[e];exact h.sl t
 ·rw[e];simp only[V]⟩
theorem aA7{α:Type}{p q:α→Bool}:∀ {l:List α},(∀x,q x=true→p x=true)→(∃x∈l,p x=true∧q x=false)→(l.filter q).length<(l.filter p).length
 | [],_,⟨x,hx,_⟩=>by cases hx
 | y::l,hpq,⟨x,hx,h1,h2⟩=>by
  have hle:(l.filter q).length≤(l.filter p).length:=by
   clear hx
   induction l with
   | nil=>simp
   | cons z l ih =>
    simp only[List.filter_cons]
    cases hz:q z with
    | true=>rw[hpq z hz];simpa using ih
    | false=>cases p z <;> simp <;> omega
  simp only[List.filter_cons]
  rcases List.mem_cons.1 hx with rfl | hx
  ·rw[h1,h2];simp;omega
  ·have:=aA7 (p:=p) (q:=q) hpq ⟨x,hx,h1,h2⟩
   cases hy:q y with
   | true=>rw[hpq y hy];simpa using this
   | false=>cases p y <;> simp <;> omega
theorem zG{α:Type}{k:List UInt8}:∀ {l:List (List UInt8×α)} {j:Nat} {p:List UInt8×α},(l.map (·.1)).Nodup→l[j]? = some p→p.1=k→l.eraseIdx j=l.filter fun x=> !(x.1 == k)
 | [],_,_,_,h,_=>by simp at h
 | x::l,0,p,hn,h,e=>by
  simp at h
  subst h
  simp only[List.map_cons,List.nodup_cons]at hn
  simp only[List.eraseIdx_cons_zero,List.filter_cons,e,BEq.rfl,Bool.not_true,Bool.false_eq_true,if_false]
  refine(List.filter_eq_self.2 fun y hy=> ?_).symm
  have:y.1≠k:=fun e'=>hn.1 (by rw[e,←e'];exact List.mem_map_of_mem hy)
  simpa using this
 | x::l,j+1,p,hn,h,e=>by
  simp only[List.map_cons,List.nodup_cons]at hn
  simp only[List.getElem?_cons_succ]at h
  have hx:x.1≠k:=fun e'=>hn.1 (by rw[e',←e];exact List.mem_map_of_mem (List.mem_of_getElem? h))
  have ih:=zG hn.2 h e
  simp only[List.eraseIdx_cons_succ,List.filter_cons]
  rw[if_pos (by simpa using hx),ih]
def yO{α:Type}(kv:List (List UInt8×α))(us:List (List UInt8×Bool))(vs:List (List UInt8)):List (List UInt8×α):=kv.filter fun p=>(bG (α:=Bool) .str us p.1).getD false || !vs.contains p.1
def aHO(tb:Tab)(ST fi MT UT kt:Nat):Option Nat :=
 match tb.find ST,tb.find MT,tb.find UT,tb.find kt with
 | some si,some mi,some ui,some ki=>match si.k,mi.k,ui.k,ki.k with
  | .st fl,.mp kt' _,.mp kt2 et2,.str=>match fl[fi]?,tb.find kt2,tb.find et2 with
   | some (off,_),some ki2,some bi=>match ki2.k with
    | .str=>if kt'=kt∧bi.T=some .bool then some off else none
    | _=>none
   | _,_,_=>none
  | _,_,_,_=>none
 | _,_,_,_=>none
def aGK(tb:Tab)(MT:Nat)(o:Option Obj)(off:Nat):Option AVal :=
 match tb.find MT,o with
 | some mi,some (.box cs)=>fN mi cs off
 | _,_=>none
theorem aBR{id:Nat}{o o':Obj}(h1:h id=some o)(h2:o.live=true)(h3:o'.live=true):own φ (upd h id (some o'))=own φ h:=by
 funext k
 refine propext ⟨fun⟨i,x,q1,q2,q3⟩=> ?_,fun⟨i,x,q1,q2,q3⟩=> ?_⟩
 ·by_cases e:i=id
  ·subst e;exact⟨i,o,h1,h2,q3⟩
  ·rw[aP _ _ e]at q1;exact⟨i,x,q1,q2,q3⟩
 ·by_cases e:i=id
  ·subst e;exact⟨i,o',aI _ _ _,h3,q3⟩
  ·exact⟨i,x,by rw[aP _ _ e];exact q1,q2,q3⟩
theorem aGo{w:World}{r:Nat}{x:Option Nat}{y z:Nat}{l:Array Nat}(h:w.heap[r]? = some (.mapIter x y l z))(ad:Addr)(v:Value)(hp:w.peek ad=some v):ad.block≠r:=fun e=>by
 subst e
 unfold World.peek at hp
 split at hp
 ·unfold World.cell? at hp
  rw[h]at hp
  simp at hp
 ·rw[h]at hp
  cases hp
set_option maxHeartbeats 4000000 in
theorem aIv(htb:TabOK P tb){σ:St}{Q:Exit→St→Prop}{idK idU idF:Nat}{A:Ty}{kv:List (List UInt8×A.den)}{us:List (List UInt8×Bool)}{dead:List Nat}{i20 i21 i22 i23 i24 b b2 tS tU tI tN tO tE tF tK tG d0 d1 d2 d3 d7 d8 d9 e0 e1 e2 e3 e4 fi sz off:Nat}{ST MT UT kt bt:TypeId}
  {y0 y1 y2 y3 y4 y5 y6 y7 y8 y9 y10 y11 y12 y13 y14 y15 y16 y17 y18 y19:TypeId} {q0 q1 q2 q3 q4 q5 q6 q7 q8 q9 q10 q11 q12 q13 q14 q15 q16 q17 q18 q19:String} {f0 f1 f2 f3 f4 f5 f6 f7 f8 f9 f10 f11 f12 f13 f14 f15 f16 f17 f18 f19:Array Edge}
  (hT:aHO tb ST fi MT UT kt=some off) (s1:σ.s tS = .adr idF 0 sz 0) (s2:aGK tb MT (σ.h idF) off=some (.mp idK)) (s4:σ.h idK=some (.mpo .str A kv)) (s5:σ.s tU = .mp idU) (s6:σ.h idU=some (.mpo .str .bool us))
  (b1:([d0,d1,d2,d3,tI,tN,tO,tE,tF,tK,d7,d8,d9,tG,e0,e1,e2,e3,e4].all fun t=>dead.contains t && decide (t<n.sz))=true) (b3:(dead.contains tS || dead.contains tU)=false) (b4:idK≠idF∧idU≠idK)
  (hI:([tN,tO,tE,tF,tK,d7,d8,d9,tG,e0,e1,e2,e3,e4].all fun t=>t != tI)=true)
  (ne:tK≠d7∧tK≠d8∧tK≠d9∧tK≠tG∧tK≠e0∧tK≠e1∧tK≠e2∧tK≠e3∧d7≠d8∧e3≠e4∧tK≠e4)
  (hq:∀σ',Le n σ' ⟨A5 dead σ.s,upd σ.h idK (some (.mpo .str A (xT .str kv us))),σ.nx,σ.pn⟩→Q .normal σ') :
  W P n Bw w0 (.seq (.region i20 #[⟨some d0,.move (.tmp tS),y0,q0,f0,none⟩,⟨some d1,.nilCheck (.tmp d0),y1,q1,f1,none⟩,⟨some d2,.fieldAddr ST (.tmp d1) fi,y2,q2,f2,none⟩,⟨some d3,.load MT (.tmp d2),y3,q3,f3,none⟩,⟨some tI,.range MT (.tmp d3),y4,q4,f4,none⟩] false) (.block b (.loop (.seq (.region i21 #[⟨some tN,.next (.tmp tI) false,y5,q5,f5,none⟩,⟨some tO,.extract (.tmp tN) 0,y6,q6,f6,none⟩] false) (.seq (.cond (.tmp tO) .skip (.exit b)) (.block b2 (.seq (.region i22 #[⟨some tE,.entry (.tmp tI),y7,q7,f7,none⟩,⟨some tF,.extract (.tmp tE) 0,y8,q8,f8,none⟩,⟨some tK,.assign (.tmp tF),y9,q9,f9,none⟩] false) (.seq (.region i23 #[⟨some d7,.move (.tmp tU),y10,q10,f10,none⟩,⟨some d8,.move (.tmp tK),y11,q11,f11,none⟩,⟨some d9,.lookup UT (.tmp d7) (.tmp d8) false,y12,q12,f12,none⟩,⟨some tG,.unOp .not bt (.tmp d9),y13,q13,f13,none⟩] false) (.cond (.tmp tG) (.region i24 #[⟨some e0,.move (.tmp tS),y14,q14,f14,none⟩,⟨some e1,.nilCheck (.tmp e0),y15,q15,f15,none⟩,⟨some e2,.fieldAddr ST (.tmp e1) fi,y16,q16,f16,none⟩,⟨some e3,.load MT (.tmp e2),y17,q17,f17,none⟩,⟨some e4,.move (.tmp tK),y18,q18,f18,none⟩,⟨none,.call { callee:= .builtin .delete,args:= #[.tmp e3,.tmp e4],argTypes:= #[MT,kt] },y19,q19,f19,none⟩] false) .skip))))))))) σ Q:=by
 obtain⟨si,fl,ft,mi,et,ki,ui,kt2,et2,ki2,bi,t1,t2,t3,t4,t5,t6,t7,t8,t9,t10,t11,t12,t13⟩:∃si fl ft mi et ki ui kt2 et2 ki2 bi,tb.find ST=some si∧si.k = .st fl∧fl[fi]? = some (off,ft)∧tb.find MT=some mi∧mi.k = .mp kt et∧tb.find kt=some ki∧ki.k = .str ∧
   tb.find UT=some ui∧ui.k = .mp kt2 et2∧tb.find kt2=some ki2∧ki2.k = .str∧tb.find et2=some bi∧bi.T=some .bool:=by
  unfold aHO at hT
  split at hT
  ·rename_i si mi ui ki t1 t4 t8 t6
   split at hT
   ·rename_i fl kt' et kt2 et2 t2 t5 t9 t7
    split at hT
    ·rename_i off' ft ki2 bi t3 t10 t12
     split at hT
     ·rename_i t11
      split at hT
      ·rename_i hh
       cases hT
       obtain⟨rfl,t13⟩:=hh
       exact⟨si,fl,ft,mi,et,ki,ui,kt2,et2,ki2,bi,t1,t2,t3,t4,t5,t6,t7,t8,t9,t10,t11,t12,t13⟩
      ·cases hT
     ·cases hT
    ·cases hT
   ·cases hT
  ·cases hT
 obtain⟨cs,sF,s3⟩:∃cs,σ.h idF=some (.box cs)∧fN mi cs off=some (.mp idK):=by
  unfold aGK at s2
  rw[t4]at s2
  split at s2
  ·rename_i mi' cs e1 e2
   cases e1
   exact⟨cs,e2,s2⟩
  ·cases s2
 clear hT s2
 have hko:KeyOk P kt .str:=KeyOk.of_kk (htb.find t6) (by rw[t7];rfl)
 have hko2:KeyOk P kt2 .str:=KeyOk.of_kk (htb.find t10) (by rw[t11];rfl)
 simp only[List.all_cons,List.all_nil,Bool.and_true,Bool.and_eq_true,decide_eq_true_eq]at b1
 obtain⟨⟨D0,n0⟩,⟨D1,n1⟩,⟨D2,n2⟩,⟨D3,n3⟩,⟨DI,nI⟩,⟨DN,nN⟩,⟨DO,nO⟩,⟨DE,nE⟩,⟨DF,nF⟩,⟨DK,nK⟩,⟨D7,n7⟩,⟨D8,n8⟩,⟨D9,n9⟩,⟨DG,nG⟩,⟨E0,m0⟩,⟨E1,m1'⟩,⟨E2,m2'⟩,⟨E3,m3⟩,E4,m4⟩:=b1
 rw[Bool.or_eq_false_iff]at b3
 simp only[List.all_cons,List.all_nil,Bool.and_true,Bool.and_eq_true,bne_iff_ne,ne_eq]at hI
 obtain⟨ne1,ne2,neE,neF,neK,ne7',ne8',ne9',neG,neE0,neE1,neE2,neE3,neE4⟩:=hI
 obtain⟨ne3,ne4,ne5,ne6,ne7,ne8,ne9,ne10,ne11,ne12,neE4k⟩:=ne
 have hdst:∀ {t:Nat},t<n.sz→R5 n (some t)=true:=fun h=>by simpa [R5]using h
 obtain⟨dm,hm,hmk⟩:=(htb.find t4).hu
 rw[t5]at hmk
 simp only[UK]at hmk
 subst hmk
 intro a w hR
 obtain⟨ρ,φ,m,hs,hnx⟩:=hR.ex
 refine wp_seq (wp_region ?_)
 simp only[List.size_toArray,List.length_cons,List.length_nil,show List.range (0+1+1+1+1+1)=[0,1,2,3,4]from rfl]
 rw[wpOps_cons]
 refine fM (d:=some d0) rfl rfl rfl (hdst n0) hs (mU hs (.inl rfl)) fun a1 h1=> ?_
 rw[s1]at h1
 rw[wpOps_cons]
 refine fM (d:=some d1) rfl rfl rfl (hdst n1) h1 (aCk h1 (aI _ _ _) rfl) fun a2 h2=> ?_
 rw[wpOps_cons]
 refine fM (d:=some d2) rfl rfl rfl (hdst n2) h2 (U4 h2 (aI _ _ _) rfl (htb.find t1) t2 t3) fun a3 h3=> ?_
 rw[wpOps_cons]
 refine fM (d:=some d3) rfl rfl rfl (hdst n3) h3 (aAP m h3 (aI _ _ _) sF rfl (htb.find t4) (by rw[Nat.zero_add];exact s3)) fun a4 h4=> ?_
 have hv:=h4.sl d3
 simp only[eJ,aI]at hv
 obtain⟨mb,es0,clock0,ev,hρ,hφ,hmb0,⟨hK,hB⟩,hkeys0,hnd0,hvals0⟩:=F5 m s4 hv
 have hown0:own φ σ.h mb:=⟨idK,_,s4,rfl,hφ⟩
 have hmlt:mb<w.heap.size:=m.own_lt hown0
 have hrfresh:¬own φ σ.h w.heap.size:=fun ho=>Nat.lt_irrefl _ (m.own_lt ho)
 have hrkp:¬w0.kp w.heap.size:=fun hk=>Nat.lt_irrefl _ (Nat.lt_of_lt_of_le (w0.lt _ hk) m.kp.size)
 rw[wpOps_cons]
 refine D5 (w':=w.alloc (.mapIter (some mb) clock0 #[] clock0)) rfl rfl (d:=some tI) rfl (v:= .pointer (some ⟨w.heap.size,0,none⟩)) (aEi rfl ev hm hmb0) ?_
 generalize hrr:w.heap.size=r at hrfresh hrkp
 obtain⟨mm,hF1⟩:=m.foreign (w':=w.alloc (.mapIter (some mb) clock0 #[] clock0)) (r:=r) rfl rfl rfl (by simp) (fun k hk _=>heap_alloc_old w _ hk) hrfresh hrkp (fun ad v hp e=>by
  have:=World.peek_lt hp
  omega)
 have hs1:Slots n (Fr (own φ σ.h) Bw (w.alloc (.mapIter (some mb) clock0 #[] clock0))) ρ (upd (A5 dead σ.s) tI (.lit (.pointer (some ⟨r,0,none⟩)))) (a4.put (some tI) (.pointer (some ⟨r,0,none⟩))):=by
  refine((h4.mono hF1 (fun _ _ h=>h)).putD (d:=some tI) (x:= .lit (.pointer (some ⟨r,0,none⟩))) (v:= .pointer (some ⟨r,0,none⟩)) (by simp only[V]) (hdst nI)).back fun t=> ?_
  simp only[eJ]
  by_cases e:t=tI
  ·subst e
   exact .inl (by rw[aI,aI])
  ·rw[aP _ _ e]
   unfold A5
   cases hd:dead.contains t with
   | true=>exact .inr rfl
   | false =>
    refine .inl ?_
    have hne:∀x,dead.contains x=true→t≠x:=fun x hx e=>by rw[e,hx]at hd;cases hd
    rw[aP _ _ e,aP _ _ (hne _ D3),aP _ _ (hne _ D2),aP _ _ (hne _ D1),aP _ _ (hne _ D0)]
    rfl
 show(Code.block b _).wp P (fun e a' w'=>∃σ',R n Bw w0 σ' a' w'∧Q e σ') _ _
 refine wp_block ?_
 refine aHZ (fun k a w=>∃vs es seen,k=(kv.filter fun p=> !vs.contains p.1).length∧Mem Bw w0 ρ φ (upd σ.h idK (some (.mpo .str A (yO kv us vs)))) w∧Slots n (Fr (own φ σ.h) Bw w) ρ (upd (A5 dead σ.s) tI (.lit (.pointer (some ⟨r,0,none⟩)))) a∧w.heap[r]? = some (.mapIter (some mb) clock0 seen clock0) ∧
  w.heap[mb]? = some (.map es clock0)∧(∀x∈es.toList,x.born<clock0)∧∀e∈es.toList,(seen.contains e.born=true↔∃k,k∈vs∧e.key=aZ .str k)) ?_ (k:=(kv.filter fun p=> !([]:List (List UInt8)).contains p.1).length)
  ⟨[],es0,#[],rfl,?_,hs1,by rw[←hrr];exact heap_alloc_new w _,by rw[heap_alloc_old w _ hmlt];exact hmb0,hB.2,fun e _=>by simp⟩
 case refine_2 =>
  have e1:yO kv us []=kv:=List.filter_eq_self.2 fun p _=>by simp
  have e2:upd σ.h idK (some (.mpo .str A kv))=σ.h:=by
   funext i
   by_cases e:i=idK
   ·subst e;rw[aI,s4]
   ·rw[aP _ _ e]
  rw[e1,e2]
  exact mm
 clear hs1 mm hF1 h1 h2 h3 h4 hv ev hB hkeys0 hnd0 hvals0 hmb0 hs
 rintro k a w ⟨vs,es,seen,rfl,m1,hs1,hr,hmb,hborn,hseen⟩
 have hoe:own φ (upd σ.h idK (some (.mpo .str A (yO kv us vs))))=own φ σ.h:=aBR s4 rfl rfl
 obtain⟨hB1,hkeys,hnd,hvals⟩:Born es clock0∧es.toList.map (·.key)=(yO kv us vs).map (fun p=>aZ .str p.1)∧((yO kv us vs).map (·.1)).Nodup∧∀i (h':i<(yO kv us vs).length),∃e:MapEntry,es[i]? = some e∧MV (Fr (own φ (upd σ.h idK (some (.mpo .str A (yO kv us vs))))) Bw w false) A (yO kv us vs)[i].2 e.val:=by
  obtain⟨u,q1,mb',es',clock',rfl,_,hb',⟨_,hB1⟩,q2,q3,q4⟩:=m1.ob idK _ (aI _ _ _)
  rw[hρ]at q1
  cases q1
  rw[hmb]at hb'
  cases hb'
  exact⟨hB1,q2,q3,q4⟩
 refine wp_seq (wp_region ?_)
 simp only[List.size_toArray,List.length_cons,List.length_nil,show List.range (0+1+1)=[0,1]from rfl]
 rw[wpOps_cons]
 have hit:a.tmps.getD tI undef = .pointer (some ⟨r,0,none⟩):=by
  have:=hs1.sl tI
  rw[aI]at this
  simpa only [V]using this
 rcases run_next_at (P:=P) w y5 r mb clock0 clock0 seen es clock0 hr hmb hborn (Nat.le_refl _)with⟨g0,hrun⟩ | ⟨e,he,w1,hal,hrun⟩
 ·-- all were looked at
  refine D5 (d:=some tN) rfl rfl rfl (aA1 rfl hit hrun) ?_
  have k1:=hs1.putD (d:=some tN) (x:= .tup [.p false .bool false]) (v:= .tuple #[.bool false]) (by
   simp only[V,VL,Vcells]
   exact⟨_,rfl,rfl,⟨.bool false,by simp,rfl,rfl⟩,trivial⟩) (hdst nN)
  rw[wpOps_cons]
  refine fM (d:=some tO) rfl rfl rfl (hdst nO) k1 (rU k1 (aI _ _ _) rfl rfl) fun a2 k2=> ?_
  show(Code.seq (.cond (.tmp tO) .skip (.exit b)) _).wp P _ _ _
  have hcv:a2.tmps.getD tO undef = .bool false:=l4 (by have:=k2.sl tO;simp only[eJ,aI]at this;exact this)
  refine wp_seq (wp_cond_false hcv (wp_exit ?_))
  simp only[Exit.then,Exit.inBlock,if_true]
  have hall:∀e∈es.toList,seen.contains e.born=true:=fun e he=>by
   cases hc:seen.contains e.born with
   | true=>rfl
   | false =>
    exfalso
    have:e∈leftOf es seen:=by
     unfold leftOf
     rw[Array.mem_filter]
     exact⟨by simpa using he,by rw[hc];rfl⟩
    have:=Array.size_pos_of_mem this
    omega
  have hkv:yO kv us vs=xT .str kv us:=by
   refine List.filter_congr fun p hp=> ?_
   cases hc:vs.contains p.1 with
   | true=>simp
   | false =>
    exfalso
    have hpk:p∈yO kv us vs:=List.mem_filter.2 ⟨hp,by simp only[hc,Bool.not_false,Bool.or_true]⟩
    obtain⟨j,hj⟩:=List.mem_iff_getElem?.1 hpk
    have q:(es.toList.map (·.key))[j]? = some (aZ .str p.1):=by rw[hkeys,List.getElem?_map,hj];rfl
    rw[List.getElem?_map]at q
    cases hq:es.toList[j]? with
    | none=>rw[hq]at q;cases q
    | some e =>
     rw[hq]at q
     simp only[Option.map_some,Option.some.injEq]at q
     have hem:=List.mem_of_getElem? hq
     obtain⟨k',hk1,hk2⟩:=(hseen e hem).1 (hall e hem)
     have:p.1=k':=gI (K:= .str) rfl (by rw[←q,hk2])
     rw[←this]at hk1
     rw[List.contains_iff_mem.2 hk1]at hc
     cases hc
  refine⟨⟨A5 dead σ.s,upd σ.h idK (some (.mpo .str A (xT .str kv us))),σ.nx,σ.pn⟩,⟨⟨ρ,φ,by have:=m1;rw[hkv]at this;exact this,?_,hnx⟩,hR.pn⟩,hq _ (Le.refl _)⟩
  rw[show own φ (upd σ.h idK (some (.mpo .str A (xT .str kv us))))=own φ σ.h from aBR s4 rfl rfl]
  refine k2.back fun t=> ?_
  simp only[eJ]
  unfold A5
  cases hd:dead.contains t with
  | true=>exact .inr rfl
  | false =>
   refine .inl ?_
   have hne:∀x,dead.contains x=true→t≠x:=fun x hx e=>by rw[e,hx]at hd;cases hd
   rw[aP _ _ (hne _ DO),aP _ _ (hne _ DN),aP _ _ (hne _ DI)]
   simp only[hd]
 ·-- one entry
  have hmem:e∈es.toList∧seen.contains e.born=false:=by
   unfold leftOf at he
   simp only[Array.toList_filter,List.mem_filter,Bool.not_eq_true']at he
   exact he
  obtain⟨hem,hns⟩:=hmem
  obtain⟨j0,hj0⟩:=List.mem_iff_getElem?.1 hem
  obtain⟨p0,hp0,hpe⟩:=lJ (K:= .str) hkeys hj0
  obtain⟨k,hk⟩:∃k,k=p0.1:=⟨_,rfl⟩
  rw[←hk]at hpe
  have hp0m:p0∈kv:=(List.mem_filter.1 (List.mem_of_getElem? hp0)).1
  have hkvs:vs.contains k=false:=by
   cases hc:vs.contains k with
   | false=>rfl
   | true =>
    have:=(hseen e hem).2 ⟨k,List.contains_iff_mem.1 hc,hpe⟩
    rw[hns]at this
    cases this
  have hlt:(kv.filter fun p=> !(k::vs).contains p.1).length<(kv.filter fun p=> !vs.contains p.1).length:=by
   refine aA7 (fun x hx=> ?_) ⟨p0,hp0m,by rw[←hk,hkvs];rfl,by rw[←hk];simp⟩
   simp only[List.contains_cons,Bool.not_or,Bool.and_eq_true]at hx
   exact hx.2
  have hw1:w1.os=w.os∧w1.tape=w.tape∧w1.output=w.output∧w1.heap=w.heap:=by rcases hal with rfl | rfl <;> exact⟨rfl,rfl,rfl,rfl⟩
  generalize hw2:setBlock w1 r (.mapIter (some mb) clock0 (seen.push e.born) clock0)=w2 at hrun
  have hh2:w2.heap=w.heap.setIfInBounds r (.mapIter (some mb) clock0 (seen.push e.born) clock0):=by
   rw[←hw2]
   show w1.heap.setIfInBounds _ _=_
   rw[hw1.2.2.2]
  have hrlt:r<w.heap.size:=(Array.getElem?_eq_some_iff.1 hr).1
  have hrm:mb≠r:=fun e=>hrfresh (e ▸ hown0)
  have hr2:w2.heap[r]? = some (.mapIter (some mb) clock0 (seen.push e.born) clock0):=by rw[hh2];simp[hrlt]
  have hmb2:w2.heap[mb]? = some (.map es clock0):=by rw[hh2,Array.getElem?_setIfInBounds_ne (Ne.symm hrm)];exact hmb
  obtain⟨m2,hF2⟩:=m1.foreign (w':=w2) (r:=r) (by rw[←hw2];exact hw1.1) (by rw[←hw2];exact hw1.2.1) (by rw[←hw2];exact hw1.2.2.1) (by rw[hh2];simp) (fun i _ hi=>by rw[hh2,Array.getElem?_setIfInBounds_ne (Ne.symm hi)])
   (by rw[hoe];exact hrfresh) hrkp (fun ad v hp=>aGo hr ad v hp)
  refine D5 (d:=some tN) rfl rfl rfl (aA1 rfl hit hrun) ?_
  have hs2:Slots n (Fr (own φ (upd σ.h idK (some (.mpo .str A (yO kv us vs))))) Bw w2) ρ (upd (A5 dead σ.s) tI (.lit (.pointer (some ⟨r,0,none⟩)))) a:=hs1.mono (fun β a v hv=>hF2 β a v (by rw[hoe];exact hv)) (fun _ _ h=>h)
  have k1:=hs2.putD (d:=some tN) (x:= .tup [.p false .bool true,.lit e.key,.lit e.val]) (v:= .tuple #[.bool true,e.key,e.val]) (by
   simp only[V,VL,Vcells]
   exact⟨_,rfl,rfl,⟨.bool true,by simp,rfl,rfl⟩,⟨e.key,by simp,rfl⟩,⟨e.val,by simp,rfl⟩,trivial⟩) (hdst nN)
  rw[wpOps_cons]
  refine fM (d:=some tO) rfl rfl rfl (hdst nO) k1 (rU k1 (aI _ _ _) rfl rfl) fun a2 k2=> ?_
  show(Code.seq (.cond (.tmp tO) .skip (.exit b)) _).wp P _ _ _
  have hcv:a2.tmps.getD tO undef = .bool true:=l4 (by have:=k2.sl tO;simp only[eJ,aI]at this;exact this)
  refine wp_seq (wp_cond_true hcv (wp_skip ?_))
  show(Code.block b2 _).wp P _ _ _
  refine wp_block (wp_seq (wp_region ?_))
  simp only[List.size_toArray,List.length_cons,List.length_nil,show List.range (0+1+1+1)=[0,1,2]from rfl]
  rw[wpOps_cons]
  have hit2:a2.tmps.getD tI undef = .pointer (some ⟨r,0,none⟩):=by
   have:=k2.sl tI
   simp only[eJ]at this
   rw[aP _ _ (Ne.symm ne2),aP _ _ (Ne.symm ne1),aI]at this
   simpa only [V]using this
  refine D5 (d:=some tE) rfl rfl rfl (aEK rfl hit2 (run_entry_at (P:=P) w2 r mb clock0 seen es clock0 e hr2 hmb2 hem hB1.1)) ?_
  have k3:=k2.putD (d:=some tE) (x:= .tup [.p false .str k,.lit e.val]) (v:= .tuple #[e.key,e.val]) (by
   simp only[V,VL,Vcells]
   exact⟨_,rfl,rfl,⟨e.key,by simp,rfl,hpe.symm⟩,⟨e.val,by simp,rfl⟩,trivial⟩) (hdst nE)
  rw[wpOps_cons]
  refine fM (d:=some tF) rfl rfl rfl (hdst nF) k3 (rU k3 (aI _ _ _) rfl rfl) fun a4 k4=> ?_
  rw[wpOps_cons]
  refine fM (d:=some tK) rfl rfl rfl (hdst nK) k4 (mU k4 (.inr rfl)) fun a5 k5=> ?_
  have canon:∀ {s':Nat→AVal} {a':Act},Slots n (Fr (own φ (upd σ.h idK (some (.mpo .str A (yO kv us vs))))) Bw w2) ρ s' a'→s' tK = .p false .str k→s' tI = .lit (.pointer (some ⟨r,0,none⟩))→(∀t,dead.contains t=false→s' t=σ.s t) →
    Slots n (Fr (own φ (upd σ.h idK (some (.mpo .str A (yO kv us vs))))) Bw w2) ρ (upd (upd (A5 dead σ.s) tI (.lit (.pointer (some ⟨r,0,none⟩)))) tK (.p false .str k)) a':=fun hs' c1 c2 c3=>hs'.back fun t=>by
   by_cases e1:t=tK
   ·subst e1;exact .inl (by rw[aI,c1])
   ·rw[aP _ _ e1]
    by_cases e2:t=tI
    ·subst e2;exact .inl (by rw[aI,c2])
    ·rw[aP _ _ e2]
     unfold A5
     cases hd:dead.contains t with
     | true=>exact .inr rfl
     | false=>exact .inl (c3 t hd).symm
  have nd:∀ {x t:Nat},dead.contains x=true→dead.contains t=false→t≠x:=fun hx ht e=>by rw[e,hx]at ht;cases ht
  have k6:=canon k5 (by simp only[eJ,aI]) (by
   simp only[eJ]
   rw[aP _ _ (Ne.symm neK),aP _ _ (Ne.symm neF),aP _ _ (Ne.symm neE),aP _ _ (Ne.symm ne2),aP _ _ (Ne.symm ne1),aI]) (fun t ht=>by
   simp only[eJ]
   rw[aP _ _ (nd DK ht),aP _ _ (nd DF ht),aP _ _ (nd DE ht),aP _ _ (nd DO ht),aP _ _ (nd DN ht),aP _ _ (nd DI ht)]
   unfold A5
   rw[ht]
   rfl)
  generalize hsC:upd (upd (A5 dead σ.s) tI (.lit (.pointer (some ⟨r,0,none⟩)))) tK (.p false .str k)=sC at k6 canon
  have cK:sC tK = .p false .str k:=by rw[←hsC,aI]
  have cI:sC tI = .lit (.pointer (some ⟨r,0,none⟩)):=by rw[←hsC,aP _ _ (Ne.symm neK),aI]
  have cD:∀t,dead.contains t=false→sC t=σ.s t:=fun t ht=>by
   rw[←hsC,aP _ _ (nd DK ht),aP _ _ (nd DI ht)]
   unfold A5
   rw[ht]
   rfl
  clear k1 k2 k3 k4 k5
  show(Code.seq _ (.cond (.tmp tG) _ .skip)).wp P _ _ _
  refine wp_seq (wp_region ?_)
  simp only[List.size_toArray,List.length_cons,List.length_nil,show List.range (0+1+1+1+1)=[0,1,2,3]from rfl]
  rw[wpOps_cons]
  refine fM (d:=some d7) rfl rfl rfl (hdst n7) k6 (mU k6 (.inl rfl)) fun a7 k7=> ?_
  rw[cD tU b3.2,s5]at k7
  rw[wpOps_cons]
  refine fM (d:=some d8) rfl rfl rfl (hdst n8) k7 (mU k7 (.inl rfl)) fun a8 k8=> ?_
  rw[show eJ sC (some d7) (.mp idU) tK = .p false .str k by simp only[eJ];rw[aP _ _ ne3,cK]]at k8
  rw[wpOps_cons]
  refine fM (d:=some d9) rfl rfl rfl (hdst n9) k8 (aCm m2 (htb.find t8) t9 hko2 rfl (htb.find t12) t13 (us:=us) (id:=idU) (k:=k) (by rw[aP _ _ b4.2];exact s6) k8 (by simp only[eJ];rw[aP _ _ ne11,aI]) (aI _ _ _) rfl) fun a9 k9=> ?_
  rw[wpOps_cons]
  refine fM (d:=some tG) rfl rfl rfl (hdst nG) k9 (aHY k9 (aI _ _ _) rfl) fun a10 k10=> ?_
  have hcg:a10.tmps.getD tG undef = .bool (!((bG (α:=Bool) .str us k).getD false)):=l4 (by have:=k10.sl tG;simp only[eJ,aI]at this;exact this)
  have k11:=canon k10 (by simp only[eJ];rw[aP _ _ ne6,aP _ _ ne5,aP _ _ ne4,aP _ _ ne3,cK]) (by
   simp only[eJ]
   rw[aP _ _ (Ne.symm neG),aP _ _ (Ne.symm ne9'),aP _ _ (Ne.symm ne8'),aP _ _ (Ne.symm ne7'),cI]) (fun t ht=>by
   simp only[eJ]
   rw[aP _ _ (nd DG ht),aP _ _ (nd D9 ht),aP _ _ (nd D8 ht),aP _ _ (nd D7 ht),cD t ht])
  clear k6 k7 k8 k9 k10
  have hseen':∀e'∈es.toList,((seen.push e.born).contains e'.born=true↔∃k',k'∈k::vs∧e'.key=aZ .str k'):=fun e' he'=>by
   rw[Array.contains_push]
   simp only[Bool.or_eq_true,beq_iff_eq]
   constructor
   ·rintro(h1 | h1)
    ·obtain⟨k',q1,q2⟩:=(hseen e' he').1 h1
     exact⟨k',List.mem_cons_of_mem _ q1,q2⟩
    ·have q1:=find_born e es.toList hB1.1 hem
     have q2:=find_born e' es.toList hB1.1 he'
     rw[h1,q1]at q2
     cases q2
     exact⟨k,List.mem_cons_self ..,hpe⟩
   ·rintro⟨k',q1,q2⟩
    rcases List.mem_cons.1 q1 with rfl | q1
    ·right
     obtain⟨j',hj'⟩:=List.mem_iff_getElem?.1 he'
     obtain⟨p',hp',hpe'⟩:=lJ (K:= .str) hkeys hj'
     have e1:p'.1=k':=gI (K:= .str) rfl (by rw[←hpe',q2])
     have e2:((yO kv us vs).map (·.1))[j']? = ((yO kv us vs).map (·.1))[j0]? :=by rw[List.getElem?_map,List.getElem?_map,hp',hp0];simp[e1,hk]
     have e3:j'=j0:=List.getElem?_inj (by rw[List.length_map];exact(List.getElem?_eq_some_iff.1 hp').1) hnd |>.1 e2
     subst e3
     rw[hj0]at hj'
     cases hj'
     rfl
    ·left
     exact(hseen e' he').2 ⟨k',q1,q2⟩
  have toI:∀ {F:Bool→Addr→Value→Prop} {a':Act},Slots n F ρ sC a'→Slots n F ρ (upd (A5 dead σ.s) tI (.lit (.pointer (some ⟨r,0,none⟩)))) a':=fun hs'=>hs'.back fun t=>by
   by_cases e2:t=tI
   ·subst e2;exact .inl (by rw[aI,cI])
   ·rw[aP _ _ e2]
    unfold A5
    cases hd:dead.contains t with
    | true=>exact .inr rfl
    | false=>exact .inl (cD t hd).symm
  show(Code.cond (.tmp tG) _ .skip).wp P _ _ _
  cases hu:(bG (α:=Bool) .str us k).getD false with
  | true =>
   rw[hu]at hcg
   refine wp_cond_false hcg (wp_skip ?_)
   simp only[Exit.inBlock,Exit.then]
   have hkv:yO kv us (k::vs)=yO kv us vs:=List.filter_congr fun p hp=>by
    by_cases hpk:p.1=k
    ·rw[hpk,hu];rfl
    ·rw[List.contains_cons,beq_eq_false_iff_ne.2 hpk,Bool.false_or]
   exact⟨_,hlt,k::vs,es,seen.push e.born,rfl,by rw[hkv];exact m2,by rw[←hoe];exact toI k11,hr2,hmb2,hborn,hseen'⟩
  | false =>
   rw[hu]at hcg
   refine wp_cond_true hcg (wp_region ?_)
   simp only[List.size_toArray,List.length_cons,List.length_nil,show List.range (0+1+1+1+1+1+1)=[0,1,2,3,4,5]from rfl]
   rw[wpOps_cons]
   refine fM (d:=some e0) rfl rfl rfl (hdst m0) k11 (mU k11 (.inl rfl)) fun a12 k12=> ?_
   rw[cD tS b3.1,s1]at k12
   rw[wpOps_cons]
   refine fM (d:=some e1) rfl rfl rfl (hdst m1') k12 (aCk k12 (aI _ _ _) rfl) fun a13 k13=> ?_
   rw[wpOps_cons]
   refine fM (d:=some e2) rfl rfl rfl (hdst m2') k13 (U4 k13 (aI _ _ _) rfl (htb.find t1) t2 t3) fun a14 k14=> ?_
   rw[wpOps_cons]
   refine fM (d:=some e3) rfl rfl rfl (hdst m3) k14 (aAP m2 k14 (aI _ _ _) (by rw[aP _ _ (Ne.symm b4.1)];exact sF) rfl (htb.find t4) (by rw[Nat.zero_add];exact s3)) fun a15 k15=> ?_
   rw[wpOps_cons]
   refine fM (d:=some e4) rfl rfl rfl (hdst m4) k15 (mU k15 (.inl rfl)) fun a16 k16=> ?_
   rw[show eJ (eJ (eJ (eJ sC (some e0) (.adr idF 0 sz 0)) (some e1) (.adr idF 0 sz 0)) (some e2) (.adr idF 0 sz (0+off))) (some e3) (.mp idK) tK = .p false .str k by simp only[eJ];rw[aP _ _ ne10,aP _ _ ne9,aP _ _ ne8,aP _ _ ne7,cK]]at k16
   have ev3:a16.tmps.getD e3 undef = .map (some mb):=by
    have:=k16.sl e3
    simp only[eJ]at this
    rw[aP _ _ ne12,aI]at this
    simp only[V]at this
    have:=this.1
    rw[hρ]at this
    exact(Option.some.inj this).symm
   have ev4:a16.tmps.getD e4 undef=aZ .str k:=A6 (K:= .str) rfl rfl (by have:=k16.sl e4;simp only[eJ,aI]at this;exact this)
   have hks:es.toList.map (·.key)=((yO kv us vs).map (·.1)).map (aZ .str):=by rw[hkeys,List.map_map];rfl
   obtain⟨j,e',hf,hj,hke⟩:∃j e',(Instr.findKey kt (aZ .str k) es.toList).run P w2 = .ok (some (j,e'.val)) w2∧es.toList[j]? = some e'∧e'.key=aZ .str k:=by
    rcases hko.find k es.toList ((yO kv us vs).map (·.1)) w2 hks with⟨_,h2⟩ | h2
    ·exact absurd hpe (h2 e hem)
    ·exact h2
   rw[wpOps_cons]
   refine D5 (d:=none) rfl rfl rfl (aCN rfl ev3 ev4 hm hmb2 (hko.check _ _ _) hf) ?_
   obtain⟨p,hp,hpe'⟩:=lJ (K:= .str) hkeys hj
   have hpk:p.1=k:=gI (K:= .str) rfl (by rw[←hpe',hke])
   have her:(yO kv us vs).eraseIdx j=yO kv us (k::vs):=by
    rw[zG hnd hp hpk]
    unfold yO
    rw[List.filter_filter]
    refine List.filter_congr fun x _=> ?_
    by_cases hx:x.1=k
    ·rw[hx,hu];simp
    ·rw[List.contains_cons,beq_eq_false_iff_ne.2 hx,Bool.false_or,Bool.not_false,Bool.true_and]
   have hes:(es.eraseIdxIfInBounds j).toList=es.toList.eraseIdx j:=by simp
   have hsub:∀x∈(es.eraseIdxIfInBounds j).toList,x∈es.toList:=fun x hx=>List.mem_of_mem_eraseIdx (by rw[←hes];exact hx)
   have hg:=iF w2 mb (.map (es.eraseIdxIfInBounds j) clock0)
   have hput:=m2.put (some idK) idK (.mpo .str A (yO kv us (k::vs))) (.map (some mb)) (φ idK) (some mb) hg (fun x e=>⟨idK,_,rfl,aI _ _ _,rfl,by cases e;exact hφ⟩) (.inr ⟨rfl,hρ⟩)
    (fun _ x hx=>Nat.lt_of_lt_of_le (m2.lt idK _ x (aI _ _ _) rfl hx) hg.size) (fun _ x hx=> .inr ⟨idK,_,rfl,aI _ _ _,rfl,hx⟩) (fun F' ρ' hF hρ'=>by
     refine⟨mb,_,clock0,rfl,hφ,(heap_set hmb2).1,⟨hK,?_,fun x hx=>hborn x (hsub x hx)⟩,?_,?_,fun i hi=> ?_⟩
     ·rw[hes,Go.ChangeMaps.map_eraseIdx]
      exact List.Nodup.eraseIdx _ hB1.1
     ·rw[hes,Go.ChangeMaps.map_eraseIdx,hkeys,←her,Go.ChangeMaps.map_eraseIdx]
     ·rw[←her,Go.ChangeMaps.map_eraseIdx]
      exact List.Nodup.eraseIdx _ hnd
     ·have hi':(yO kv us (k::vs))[i]? = some (yO kv us (k::vs))[i]:=List.getElem?_eq_getElem hi
      generalize (yO kv us (k::vs))[i]=x at hi'
      rw[←her,List.getElem?_eraseIdx]at hi'
      have get:∀i',(yO kv us vs)[i']? = some x→∃e:MapEntry,es.toList[i']? = some e∧MV (F' false) A x.2 e.val:=fun i' hx=>by
       have hlt:=(List.getElem?_eq_some_iff.1 hx).1
       obtain⟨e,q1,q2⟩:=hvals i' hlt
       rw[List.getElem?_eq_getElem hlt]at hx
       simp only[Option.some.injEq]at hx
       rw[hx]at q2
       exact⟨e,by rw[Array.getElem?_toList];exact q1,Vcells.mono (fun a v hv=>hF _ _ _ (hF2 _ _ _ hv)) (fun _ _ h=>h) q2.1,q2.2⟩
      rw[←Array.getElem?_toList,hes,List.getElem?_eraseIdx]
      split at hi'
      ·rename_i hij
       rw[if_pos hij]
       exact get i hi'
      ·rename_i hij
       rw[if_neg hij]
       exact get (i+1) hi')
   obtain⟨m3',hF3,-⟩:=hput
   have eρ:upd ρ idK (some (.map (some mb)))=ρ:=by
    funext i
    by_cases e:i=idK
    ·subst e;rw[aI,hρ]
    ·rw[aP _ _ e]
   have eφ:upd φ idK (φ idK)=φ:=by
    funext i
    by_cases e:i=idK
    ·subst e;rw[aI]
    ·rw[aP _ _ e]
   have eh:upd (upd σ.h idK (some (.mpo .str A (yO kv us vs)))) idK (some (.mpo .str A (yO kv us (k::vs))))=upd σ.h idK (some (.mpo .str A (yO kv us (k::vs)))):=by
    funext i
    by_cases e:i=idK
    ·subst e;rw[aI,aI]
    ·rw[aP _ _ e,aP _ _ e,aP _ _ e]
   rw[bE,eρ,eφ,eh]at m3'
   rw[bE,eφ,eh]at hF3
   have k17:=canon k16 (by simp only[eJ];rw[aP _ _ neE4k,aP _ _ ne10,aP _ _ ne9,aP _ _ ne8,aP _ _ ne7,cK]) (by
    simp only[eJ]
    rw[aP _ _ (Ne.symm neE4),aP _ _ (Ne.symm neE3),aP _ _ (Ne.symm neE2),aP _ _ (Ne.symm neE1),aP _ _ (Ne.symm neE0),cI]) (fun t ht=>by
    simp only[eJ]
    rw[aP _ _ (nd E4 ht),aP _ _ (nd E3 ht),aP _ _ (nd E2 ht),aP _ _ (nd E1 ht),aP _ _ (nd E0 ht),cD t ht])
   show Exit.inBlock b2 _ .normal _ _
   simp only[Exit.inBlock,Exit.then]
   refine⟨_,hlt,k::vs,es.eraseIdxIfInBounds j,seen.push e.born,rfl,m3',?_,?_,(heap_set hmb2).1,fun x hx=>hborn x (hsub x hx),fun e' he'=>hseen' e' (hsub e' he')⟩
   ·have:=(toI k17).mono hF3 (fun _ _ h=>h)
    rw[show own φ (upd σ.h idK (some (.mpo .str A (yO kv us (k::vs)))))=own φ σ.h from aBR s4 rfl rfl]at this
    exact this
   ·show(w2.heap.setIfInBounds mb _)[r]? = _
    rw[(heap_set hmb2).2 r (Ne.symm hrm)]
    exact hr2
end
end Go.Tv
