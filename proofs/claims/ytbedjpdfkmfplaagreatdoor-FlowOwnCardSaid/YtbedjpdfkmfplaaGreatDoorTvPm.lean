/- Code, functions: the rules. -/
import Derived.Test.YtbedjpdfkmfplaaGreatDoorTvO
namespace Go.Tv
open Go Go.RowKit
structure R{P:Program}(n:NS)(Bw:Nat→Prop)(w0:Base P)(σ:St)(a:Act)(w:World):Prop where
 ex:∃ρ φ,Mem Bw w0 ρ φ σ.h w∧Slots n (Fr (own φ σ.h) Bw w) ρ σ.s a∧∀id u,ρ id=some u→id<σ.nx
 pn:∀i u,w0.pin i=some u→i<σ.pn
def W(P:Program)(n:NS)(Bw:Nat→Prop)(w0:Base P)(c:Code)(σ:St)(Q:Exit→St→Prop):Prop :=
 ∀a w,R n Bw w0 σ a w→c.wp P (fun e a' w'=>∃σ',R n Bw w0 σ' a' w'∧Q e σ') a w
section
variable{P:Program}{n:NS}{Bw:Nat→Prop}{w0:Base P}{Q Q':Exit→St→Prop}{σ:St}
theorem W.mono{c:Code}(h:W P n Bw w0 c σ Q)(hq:∀e σ',Q e σ'→Q' e σ'):W P n Bw w0 c σ Q':=fun a w hr =>
 wp_mono (h a w hr) fun e a' w' ⟨σ',h1,h2⟩=>⟨σ',h1,hq _ _ h2⟩
theorem aJY(h:Q .normal σ):W P n Bw w0 .skip σ Q:=fun _ _ hr=>wp_skip ⟨σ,hr,h⟩
theorem aL(h:Q .ret σ):W P n Bw w0 .ret σ Q:=fun _ _ hr=>wp_ret ⟨σ,hr,h⟩
theorem aJR{id:Nat}(h:Q (.exit id) σ):W P n Bw w0 (.exit id) σ Q:=fun _ _ hr=>wp_exit ⟨σ,hr,h⟩
def aAW(P:Program)(n:NS)(Bw:Nat→Prop)(w0:Base P)(d:Code)(Q:Exit→St→Prop):Exit→St→Prop
 | .normal,σ=>W P n Bw w0 d σ Q
 | e,σ=>Q e σ
theorem aC{c d:Code}(h:W P n Bw w0 c σ (aAW P n Bw w0 d Q)):W P n Bw w0 (.seq c d) σ Q:=fun a w hr =>
 wp_seq (wp_mono (h a w hr) fun e a' w' ⟨σ',h1,h2⟩=>by
  cases e with
  | normal=>exact h2 a' w' h1
  | _=>exact⟨σ',h1,h2⟩)
theorem aEM{c:Operand}{x y:Code}{β b:Bool}(hc:ev σ.s c = .p β .bool b)(h1:b=true→W P n Bw w0 x σ Q)(h2:b=false→W P n Bw w0 y σ Q):W P n Bw w0 (.cond c x y) σ Q:=fun a w hr=>by
 obtain⟨ρ,φ,_,q2,_⟩:=hr.ex
 have hv:=bD q2 c
 rw[hc]at hv
 refine wp_cond (l4 hv) ?_
 cases b with
 | true=>exact h1 rfl a w hr
 | false=>exact h2 rfl a w hr
def n6(id:Nat)(Q:Exit→St→Prop):Exit→St→Prop
 | .exit id',σ=>if id'=id then Q .normal σ else Q (.exit id') σ
 | e,σ=>Q e σ
theorem aF{id:Nat}{c:Code}(h:W P n Bw w0 c σ (n6 id Q)):W P n Bw w0 (.block id c) σ Q:=fun a w hr =>
 wp_block (wp_mono (h a w hr) fun e a' w' ⟨σ',h1,h2⟩=>by
  cases e with
  | exit id' =>
   simp only[n6]at h2
   simp only[Exit.inBlock]
   split at h2
   ·rename_i e;rw[if_pos e];exact⟨σ',h1,h2⟩
   ·rename_i e;rw[if_neg e];exact⟨σ',h1,h2⟩
  | _=>exact⟨σ',h1,h2⟩)
theorem aCw(p:Nat→Prop)(h:∃k,p k):∃k,p k∧∀m,p m→k≤m:=by
 obtain⟨k,hk⟩:=h
 induction k using Nat.strongRecOn with
 | _ k ih =>
  by_cases hm:∃m,m<k∧p m
  ·obtain⟨m,h1,h2⟩:=hm
   exact ih m h1 h2
  ·exact⟨k,hk,fun m h2=>Nat.le_of_not_lt fun h1=>hm ⟨m,h1,h2⟩⟩
def Le(n:NS)(σ σ':St):Prop:=∀(P:Program) Bw (w0:Base P) a w,R n Bw w0 σ a w→R n Bw w0 σ' a w
theorem Le.refl(σ:St):Le n σ σ:=fun _ _ _ _ _ h=>h
theorem Le.trans{σ1 σ2 σ3:St}(h:Le n σ1 σ2)(k:Le n σ2 σ3):Le n σ1 σ3:=fun _ _ _ _ _ hr=>k _ _ _ _ _ (h _ _ _ _ _ hr)
theorem aJ1{σ':St}{c:Code}(hl:Le n σ σ')(h:W P n Bw w0 c σ' Q):W P n Bw w0 c σ Q:=fun a w hr=>h a w (hl _ _ _ _ _ hr)
def aJ9{α:Type}(n:NS)(Inv:Nat→α→Prop)(f:α→St)(k:Nat)(Q:Exit→St→Prop):Exit→St→Prop
 | .normal,σ=>∃m y,m<k∧Inv m y∧Le n σ (f y)
 | e,σ=>Q e σ
theorem aJI{α:Type}{c:Code}(Inv:Nat→α→Prop)(f:α→St)(h:∀k x,Inv k x→W P n Bw w0 c (f x) (aJ9 n Inv f k Q)){k:Nat}{x:α}(h0:Inv k x)(hl:Le n σ (f x)):
  W P n Bw w0 (.loop c) σ Q:=fun a w hr=>by
 let p:Act→World→Nat→Prop:=fun a w k=>∃x,Inv k x∧R n Bw w0 (f x) a w
 have hp:∀a w,(∃k,p a w k)→∃k,p a w k∧∀m,p a w m→k≤m:=fun a w=>aCw (p a w)
 classical
 let μ:Act→World→Nat:=fun a w=>if h:∃k,p a w k then(hp a w h).choose else 0
 have hμ:∀a w (h:∃k,p a w k),p a w (μ a w)∧∀m,p a w m→μ a w≤m:=fun a w h=>by
  simp only[μ,dif_pos h]
  exact(hp a w h).choose_spec
 refine Go.wp_loop (fun a w=>∃k,p a w k) μ ⟨k,x,h0,hl _ _ _ _ _ hr⟩ fun a w hi=> ?_
 obtain⟨⟨x,h1,h2⟩,_⟩:=hμ a w hi
 refine wp_mono (h _ x h1 a w h2) fun e a' w' ⟨σ',q1,q2⟩=> ?_
 cases e with
 | normal =>
  obtain⟨m,y,hm,hi',hle⟩:=q2
  have hpy:p a' w' m:=⟨y,hi',hle _ _ _ _ _ q1⟩
  exact⟨⟨m,hpy⟩,Nat.lt_of_le_of_lt ((hμ a' w' ⟨m,hpy⟩).2 m hpy) hm⟩
 | _=>exact⟨σ',q1,q2⟩
theorem aDr{tb:Tab}(htb:TabOK P tb)(an:An){id:Nat}{ops:Array Oper}{s':Nat→AVal}{h':Nat→Option Obj}{cs:List Prop}(hr:aGq P tb an n σ.nx ops ops.toList 0 σ.s σ.h=some (s',h',cs))(hc:u5 cs)
  (hq:Q .normal ⟨s',h',σ.nx+8*ops.size,σ.pn⟩):W P n Bw w0 (.region id ops false) σ Q:=fun a w hR=>by
 obtain⟨ρ,φ,q1,q2,q3⟩:=hR.ex
 refine wp_region ?_
 have:=V9 (P:=P) (tb:=tb) (an:=an) (n:=n) (base:=σ.nx) (ops:=ops) (Bw:=Bw) (w0:=w0) htb (Q:=fun e a' w'=>∃σ',R n Bw w0 σ' a' w'∧Q e σ') ops.toList 0 (a:=a) (w:=w)
  ⟨ρ,φ,q1,q2,fun id u hu=> .inl (q3 id u hu)⟩ (fun j=>by simp) hr hc (fun a' w' hm=>⟨_,?_,hq⟩)
 ·rw[←List.range_eq_range']at this
  simpa using this
 ·obtain⟨ρ',φ',r1,r2,r3⟩:=hm.ex
  refine⟨⟨ρ',φ',r1,r2,fun id u hu=> ?_⟩,hR.pn⟩
  simp only[Array.length_toList]at r3
  rcases r3 id u hu with h1 | ⟨i,j,h1,h2,h3⟩ <;> simp only <;> omega
theorem J7{tb:Tab}(htb:TabOK P tb)(an:An)(r:Nat){id:Nat}{ops:Array Oper}{s':Nat→AVal}{h':Nat→Option Obj}{cs:List Prop}{y:Value}(hr:uY P tb an n σ.nx ops r ops.toList 0 σ.s σ.h=some (s',h',cs,y))(hc:u5 cs)
  (hq:Q (.panic [{ v:=y,recovered:=false }]) ⟨s',h',σ.nx+8*ops.size,σ.pn⟩):W P n Bw w0 (.region id ops false) σ Q:=fun a w hR=>by
 obtain⟨ρ,φ,q1,q2,q3⟩:=hR.ex
 refine wp_region ?_
 have:=zD (P:=P) (tb:=tb) (an:=an) (n:=n) (base:=σ.nx) (ops:=ops) (Bw:=Bw) (w0:=w0) htb (Q:=fun e a' w'=>∃σ',R n Bw w0 σ' a' w'∧Q e σ') r ops.toList 0 (a:=a) (w:=w)
  ⟨ρ,φ,q1,q2,fun id u hu=> .inl (q3 id u hu)⟩ (fun j=>by simp) hr hc (fun a' w' hm=>⟨_,?_,hq⟩)
 ·rw[←List.range_eq_range']at this
  simpa using this
 ·obtain⟨ρ',φ',r1,r2,r3⟩:=hm.ex
  refine⟨⟨ρ',φ',r1,r2,fun id u hu=> ?_⟩,hR.pn⟩
  simp only[Array.length_toList]at r3
  rcases r3 id u hu with h1 | ⟨i,j,h1,h2,h3⟩ <;> simp only <;> omega
def xW(fw:List (List Nat×List Nat))(i:Nat):List Nat:=match fw[i]? with | some p=>p.1 | none=>[]
def yI(fw:List (List Nat×List Nat))(i:Nat):List Nat:=match fw[i]? with | some p=>p.2 | none=>[]
theorem K5{tb:Tab}{an:An}{base:Nat}{ops:Array Oper}:∀(l:List Oper) (k:Nat) {s s':Nat→AVal} {h h':Nat→Option Obj} {cs:List Prop} {fw:List (List Nat×List Nat)},aDf P tb an n base ops l k s h=some (s',h',cs,fw)→fw.length=l.length
 | [],_,_,_,_,_,_,_,hr=>by cases hr;rfl
 | o::l,k,s,s',h,h',cs,fw,hr=>by
  simp only[aDf]at hr
  split at hr
  ·split at hr
   ·rename_i h2
    cases hr
    simp[K5 l (k+1) h2]
   ·cases hr
  ·cases hr
theorem aJG{tb:Tab}(htb:TabOK P tb)(hm:P.follows .mixedOrders=true)(an:An){id:Nat}{ops:Array Oper}{s':Nat→AVal}{h':Nat→Option Obj}{cs:List Prop}{fw:List (List Nat×List Nat)}
  (hr:aDf P tb an n σ.nx ops ops.toList 0 σ.s σ.h=some (s',h',cs,fw)) (hx:aGx ops (xW fw) (yI fw) (wQ ops) ops.size 0 (Array.replicate ops.size false)=true) (hc:u5 cs)
  (hq:Q .normal ⟨s',h',σ.nx+8*ops.size,σ.pn⟩):W P n Bw w0 (.region id ops true) σ Q:=fun a w hR=>by
 obtain⟨ρ,φ,q1,q2,q3⟩:=hR.ex
 obtain⟨q1',qF⟩:=q1.drew
 have hlen:=K5 ops.toList 0 hr
 refine wp_region_any hm ?_
 have hA:=aDC (P:=P) (tb:=tb) (an:=an) (n:=n) (base:=σ.nx) (ops:=ops) (F:=xW fw) (W:=yI fw) (Q:=fun s h=>s=s'∧h=h') ops.toList 0 (Array.replicate ops.size false) (fun j=>by simp)
  (fun j=>by
   simp only[Nat.zero_add]
   split
   ·rename_i hj
    have hj':j<fw.length:=by omega
    simp[xW,hj']
   ·rename_i hj
    have hj':fw.length≤j:=by omega
    simp[List.getElem?_eq_none hj'])
  (fun j=>by
   simp only[Nat.zero_add]
   split
   ·rename_i hj
    have hj':j<fw.length:=by omega
    simp[yI,hj']
   ·rename_i hj
    have hj':fw.length≤j:=by omega
    simp[List.getElem?_eq_none hj'])
  (fun k o hk hl=>by simp[Array.getD]at hl) (by simpa using hx) hr hc ⟨rfl,rfl⟩
 have hA':aFP P tb an n σ.nx ops (xW fw) (yI fw) (fun s h=>s=s'∧h=h') ops.size (Array.replicate ops.size false) σ.s σ.h:=by simpa using hA
 refine wT (P:=P) (tb:=tb) (an:=an) (n:=n) (base:=σ.nx) (ops:=ops) (Bw:=Bw) (w0:=w0) htb (fun s h a w hQA hmid=> ?_) ops.size _ (by simp) ⟨ρ,φ,q1',q2.mono qF (fun _ _ h=>h),fun id u hu=> .inl (q3 id u hu)⟩ hA'
 obtain⟨rfl,rfl⟩:=hQA
 obtain⟨ρ',φ',r1,r2,r3⟩:=hmid.ex
 refine⟨⟨s,h,σ.nx+8*ops.size,σ.pn⟩,⟨⟨ρ',φ',r1,r2,fun id u hu=> ?_⟩,hR.pn⟩,hq⟩
 rcases r3 id u hu with h1 | ⟨i,j,h1,h2,h3⟩ <;> simp only <;> omega
/-! ### States anew: what is dead is dropped,objects get new numbers -/
def aM(l:List (Nat×AVal))(m:List (Nat×Obj))(nx:Nat)(pn:Nat:=0):St:=⟨fun t=>(dL l t).getD .unk,fun i=>dL m i,nx,pn⟩
def SameS(f:Nat→Nat)(s:Nat→AVal):List (Nat×AVal)→Prop
 | []=>True
 | (t,x)::r=>s t=oX f x∧SameS f s r
def SameO(f:Nat→Nat)(h:Nat→Option Obj):List (Nat×Obj)→Prop
 | []=>True
 | (i,o)::r=>h (f i)=some (qY f o)∧SameO f h r
theorem SameS.get{f:Nat→Nat}{s:Nat→AVal}:∀ {l:List (Nat×AVal)},SameS f s l→∀ {t x},(t,x)∈l→s t=oX f x
 | (_,_)::_,h,t,x,hm=>by
  rcases List.mem_cons.1 hm with e | hm
  ·cases e;exact h.1
  ·exact SameS.get h.2 hm
theorem SameO.get{f:Nat→Nat}{h:Nat→Option Obj}:∀ {l:List (Nat×Obj)},SameO f h l→∀ {t x},(t,x)∈l→h (f t)=some (qY f x)
 | (_,_)::_,h,t,x,hm=>by
  rcases List.mem_cons.1 hm with e | hm
  ·cases e;exact h.1
  ·exact SameO.get h.2 hm
def o8(f:Nat→Nat)(l:List (Nat×AVal))(m:List (Nat×Obj))(nx pn:Nat):Bool :=
 (List.range pn).all (fun i=>f i == i && decide (i<nx)) &&
 l.all (fun p=>(cE p.2).all (· < nx)) && m.all (fun p=>decide (p.1<nx) && (wM p.2).all (· < nx)) && m.all (fun p=>m.all fun q=>p.1 == q.1 || !(f p.1 == f q.1))
theorem aK3(f:Nat→Nat){l:List (Nat×AVal)}{m:List (Nat×Obj)}{nx:Nat}(hs:SameS f σ.s l)(ho:SameO f σ.h m)(hok:o8 f l m nx σ.pn=true):Le n σ (aM l m nx σ.pn):=fun P Bw w0 a w hr=>by
 obtain⟨ρ,φ,q1,q2,q3⟩:=hr.ex
 simp only[o8,Bool.and_eq_true,List.all_eq_true,decide_eq_true_eq,Bool.or_eq_true,beq_iff_eq,Bool.not_eq_true',beq_eq_false_iff_ne]at hok
 obtain⟨⟨⟨k0,k1⟩,k2⟩,k3⟩:=hok
 let ρ':Nat→Option Value:=fun i=>if i<nx then ρ (f i)else none
 let φ':Nat→Nat→Prop:=fun i=>φ (f i)
 have hρ':∀i,i<nx→ρ' i=ρ (f i):=fun i hi=>by simp only[ρ',if_pos hi]
 have hlook:∀i o,dL m i=some o→σ.h (f i)=some (qY f o)∧i<nx∧∀j∈wM o,j<nx:=fun i o hi=>by
  have hm:=pW hi
  exact⟨SameO.get ho hm,(k2 _ hm).1,(k2 _ hm).2⟩
 have hlive:∀o,(qY f o).live=o.live:=fun o=>iP
 have hown:∀k,own φ' (fun i=>dL m i) k→own φ σ.h k:=by
  rintro k ⟨id,o,h1,h2,h4⟩
  obtain⟨p1,p2,_⟩:=hlook id o h1
  exact⟨f id,_,p1,by rw[hlive];exact h2,h4⟩
 have hF:∀β a v,Fr (own φ σ.h) Bw w β a v→Fr (own φ' (fun i=>dL m i)) Bw w β a v:=fun β a v h=>⟨fun x=>h.1 (hown _ x),h.2⟩
 refine⟨⟨ρ',φ',⟨fun id o hid=> ?_,fun id o k h1 h2 h3=>q1.lt _ _ k (hlook id o h1).1 (by rw[hlive];exact h2) h3,fun id id' o o' k h1 h2 h3 h4 h5 h6=> ?_,q1.bw,fun k hk=>q1.ow k (hown k hk),q1.kp,fun i u hi=> ?_⟩,⟨q2.tm,q2.df,fun t=> ?_⟩,fun id u hu=> ?_⟩,hr.pn⟩
 ·obtain⟨p1,p2,p3⟩:=hlook id o hid
  obtain⟨u,r1,r2⟩:=q1.ob _ _ p1
  refine⟨u,by rw[hρ' id p2];exact r1,?_⟩
  cases o with
  | arr e A xs=>exact OR.mono (ρ:=ρ) (ρ':=ρ) (w:=w) (o:= .arr e A xs) hF (fun _ _ h=>h) (fun _ h=>h) (fun _ _ _=>rfl) r2
  | fz A xs =>
   simp only[qY,OR]at r2 ⊢
   exact yQ rfl (V.mono hF (fun _ _ h=>h) r2)
  | mat e e2 A xss hole=>exact aEw (fun k id' e=>hρ' id' (p3 id' (by subst e;simp[wM]))) (OR.mono (ρ:=ρ) (ρ':=ρ) (w:=w) hF (fun _ _ h=>h) (fun _ h=>h) (fun _ _ _=>rfl) r2)
  | mpo K A kv=>exact OR.mono (ρ:=ρ) (ρ':=ρ) (w:=w) (o:= .mpo K A kv) hF (fun _ _ h=>h) (fun _ h=>h) (fun _ _ _=>rfl) r2
  | mpl K kv=>exact OR.mono (ρ:=ρ) (ρ':=ρ) (w:=w) (o:= .mpl K kv) hF (fun _ _ h=>h) (fun _ h=>h) (fun _ _ _=>rfl) r2
  | cutz A xs =>
   simp only[qY,OR]at r2 ⊢
   exact⟨r2.1,yQ rfl (V.mono hF (fun _ _ h=>h) r2.2)⟩
  | bytes e xs=>exact OR.mono (ρ:=ρ) (ρ':=ρ) (w:=w) (o:= .bytes e xs) hF (fun _ _ h=>h) (fun _ h=>h) (fun _ _ _=>rfl) r2
  | lmp k n xs cs =>
   obtain⟨g,t,cells,e,sg,s1,s2,s3,s4⟩:=r2
   refine⟨g,t,cells,e,sg,s1,by rw[s2,bT],s3,?_⟩
   exact pH (fun i hi=>hρ' i (p3 i (by simpa only [wM]using hi))) (VL.mono hF (fun _ _ h=>h) (fun _ _ h=>h) s4)
  | vrow n sz cs =>
   obtain⟨g,t,cells,e,sg,s1,s2,s3,s4⟩:=r2
   refine⟨g,t,cells,e,sg,s1,by rw[s2,bT],by rw[←s3,bT],?_⟩
   exact pH (fun i hi=>hρ' i (p3 i (by simpa only [wM]using hi))) (VL.mono hF (fun _ _ h=>h) (fun _ _ h=>h) s4)
  | box cs =>
   obtain⟨g,t,cells,e,sg,s1,s2,s3⟩:=r2
   refine⟨g,t,cells,e,sg,s1,by rw[s2,bT],?_⟩
   exact pH (fun i hi=>hρ' i (p3 i (by simpa only [wM]using hi))) (VL.mono hF (fun _ _ h=>h) (fun _ _ h=>h) s3)
 ·obtain⟨p1,p2,_⟩:=hlook id o h1
  obtain⟨p1',p2',_⟩:=hlook id' o' h3
  have:=q1.dj _ _ _ _ k p1 (by rw[hlive];exact h2) p1' (by rw[hlive];exact h4) h5 h6
  rcases k3 _ (pW h1) _ (pW h3)with e | e
  ·exact e
  ·exact absurd this e
 ·have:=k0 i (List.mem_range.2 (hr.pn i u hi))
  rw[hρ' i this.2,this.1]
  exact q1.pin i u hi
 ·simp only[aM]
  cases hl:dL l t with
  | none=>simp only[Option.getD_none,V]
  | some x =>
   have hm:=pW hl
   have hv:=q2.sl t
   rw[SameS.get hs hm]at hv
   simp only[Option.getD_some]
   exact aJc (fun i hi=>hρ' i (k1 _ hm i hi)) (V.mono hF (fun _ _ h=>h) hv)
 ·simp only[ρ']at hu
  split at hu
  ·assumption
  ·cases hu
end
end Go.Tv
namespace Go.Tv
open Go Go.RowKit
def bJ(β:Bool):List (Σ T:Ty,T.den)→List AVal
 | []=>[]
 | ⟨T,x⟩::r=>enc β T x::bJ β r
def aX:List AVal→AVal
 | [x]=>x
 | xs=> .tup xs
def L7(tb:Tab)(s:Nat→AVal)(h:Nat→Option Obj):List ResultVar→Option (List AVal)
 | []=>some []
 | .tmp t::r=>match L7 tb s h r with
  | some xs=>some (s t::xs)
  | none=>none
 | .cell a t::r=>match s a with
  | .adr id i sz off=>match h id with
   | some (.box cs)=>match tb.find t with
    | some ti=>match fN ti cs (i*sz+off)with
     | some x=>match L7 tb s h r with
      | some xs=>some (x::xs)
      | none=>none
     | none=>none
    | none=>none
   | _=>none
  | _=>none
def rC(h:Nat→Option Obj):List AVal→List Ty→Option (List (Σ T:Ty,T.den))
 | [],[]=>some []
 | x::xs,T::Ts=>if(cellsOf x).all AVal.cell && mJ T x then match toT T h x with
  | some (y,u)=>match rC (apply u h) xs Ts with
   | some ys=>some (⟨T,y⟩::ys)
   | none=>none
  | none=>none
  else none
 | _,_=>none
def Ret(tb:Tab)(rs:List ResultVar)(vals:List (Σ T:Ty,T.den)):Exit→St→Prop
 | .normal,σ=>∃xs Ts,L7 tb σ.s σ.h rs=some xs∧rC σ.h xs Ts=some vals
 | .ret,σ=>∃xs Ts,L7 tb σ.s σ.h rs=some xs∧rC σ.h xs Ts=some vals
 | _,_=>False
def vG(args:List AVal):St:=⟨fun t=>(args[t]?).getD .unk,fun _=>none,0,0⟩
section
variable{P:Program}{tb:Tab}{n:NS}{Bw:Nat→Prop}{w0:Base P}{w:World}{ρ:Nat→Option Value}{φ:Nat→Nat→Prop}{s:Nat→AVal}{h:Nat→Option Obj}{a:Act}
theorem kC(htb:TabOK P tb)(m:Mem Bw w0 ρ φ h w)(hs:Slots n (Fr (own φ h) Bw w) ρ s a):∀ {rs:List ResultVar} {xs:List AVal},L7 tb s h rs=some xs →
  ∃vs,(rs.mapM (fun r:ResultVar=>(match r with | .tmp t=>pure (a.tmps.getD t undef) | .cell ad t=>(do loadVar t (←asAddr (a.tmps.getD ad undef)):Sem Value)))).run P w = .ok vs w∧VVs (Fr (own φ h) Bw w) ρ xs vs
 | [],xs,hr=>by cases hr;exact⟨[],rfl,trivial⟩
 | .tmp t::r,xs,hr=>by
  simp only[L7]at hr
  split at hr
  ·rename_i xs' h1
   cases hr
   obtain⟨vs,q1,q2⟩:=kC htb m hs h1
   refine⟨a.tmps.getD t undef::vs,?_,hs.sl t,q2⟩
   rw[List.mapM_cons,Sem.run_bind]
   simp only[Sem.run_pure,Result.andThen_ok,Sem.run_bind,q1]
  ·cases hr
 | .cell ad t::r,xs,hr=>by
  simp only[L7]at hr
  split at hr
  ·rename_i id i sz off e
   split at hr
   ·rename_i cs hi
    split at hr
    ·rename_i ti ht
     split at hr
     ·rename_i x hx
      split at hr
      ·rename_i xs' h1
       cases hr
       obtain⟨vs,q1,q2⟩:=kC htb m hs h1
       have hv:=hs.sl ad
       rw[e]at hv
       obtain⟨b,e1,e2⟩:=pF m hv (cs:=cs) (off:=i*sz+off) (c:=True) (by simp only[mH,hi]) trivial
       obtain⟨v,r1,r2⟩:=hZ (P:=P) (htb.find ht) e2 hx
       refine⟨v::vs,?_,r2,q2⟩
       rw[List.mapM_cons,Sem.run_bind]
       simp only[e1,asAddr,Sem.run_bind,Sem.run_pure,Result.andThen_ok,r1]
       simp only[asAddr]at q1
       rw[q1]
       rfl
      ·cases hr
     ·cases hr
    ·cases hr
   ·cases hr
  ·cases hr
theorem rO:∀ {xs:List AVal} {Ts:List Ty} {h:Nat→Option Obj} {vals:List (Σ T:Ty,T.den)} {vs:List Value},Mem Bw w0 ρ φ h w→rC h xs Ts=some vals→VVs (Fr (own φ h) Bw w) ρ xs vs →
  VVs (fun _=>Fr hX Bw w false) lD (bJ false vals) vs
 | [],[],h,vals,vs,_,hv,hx=>by
  cases hv
  cases vs with
  | nil=>trivial
  | cons _ _=>exact hx.elim
 | x::xs,T::Ts,h,vals,vs,m,hv,hx=>by
  simp only[rC]at hv
  split at hv
  ·rename_i hc
   split at hv
   ·rename_i y u h1
    split at hv
    ·rename_i ys h2
     cases hv
     cases vs with
     | nil=>exact hx.elim
     | cons v vs =>
      obtain⟨m',f1,g1⟩:=qC m h1
      simp only[Bool.and_eq_true]at hc
      obtain⟨hc1,hc2⟩:=hc
      obtain⟨r1,r2,r3⟩:=gW hc1 hx.1
      obtain⟨s1,s2⟩:=g1 _ r1
      refine⟨?_,rO m' h2 (VVs.mono f1 (fun _ _ h=>h) hx.2)⟩
      have s1':Vcells (Fr hX Bw w false) T y (fun k u=>v.cells.toList[k]? = some u):=Vcells.mono (fun a u hh=>⟨fun e=>e,hh.2⟩) (fun _ _ h=>h) s1
      by_cases hagg:∃cs,x = .agg cs
      ·obtain⟨cs,rfl⟩:=hagg
       have hx1:=hx.1
       simp only[V]at hx1
       obtain⟨us,rfl,e2,e3⟩:=hx1
       have hsc:T.scalar=false:=by simpa [mJ]using hc2
       simp only[enc,hsc]
       simp only[Bool.false_eq_true,if_false,V]
       refine⟨us,rfl,?_,lA false T y _ (Vcells.mono (fun _ _ h=>h) (fun k u hk=>by simpa [Value.cells]using hk) s1')⟩
       rw[fJ,s2,e2]
       rfl
      ·have hcell:cellsOf x=[x]:=by
        cases x <;> first | rfl | exact(hagg ⟨_,rfl⟩).elim | cases hc2
       have hsc:T.scalar=true:=by
        cases x <;> first | exact hc2 | exact(hagg ⟨_,rfl⟩).elim | cases hc2
       rw[hcell]at hc1
       simp only[List.all_cons,List.all_nil,Bool.and_true]at hc1
       have hv1:=jY (yX hc1 hx.1)
       simp only[enc,hsc,if_true,V]
       refine⟨trivial,?_⟩
       rw[hv1]at s1'
       refine Vcells.monoLt (fun k u hk hu=> ?_) s1'
       rw[Ty.size_scalar hsc]at hk
       obtain rfl:k=0:=by omega
       simp at hu
       exact hu.symm
    ·cases hv
   ·cases hv
  ·cases hv
 | [],_::_,_,_,_,_,hv,_=>by cases hv
 | _::_,[],_,_,_,_,hv,_=>by cases hv
theorem j3{F:Bool→Addr→Value→Prop}:∀ {xs:List AVal} {vs:List Value},VVs F ρ xs vs→xs.length=vs.length∧∀t:Nat,V F ρ ((xs[t]?).getD .unk) ((vs[t]?).getD undef)
 | [],[],_=>⟨rfl,fun t=>by simp only[List.getElem?_nil,Option.getD_none,V]⟩
 | x::xs,v::vs,h=>by
  obtain⟨h1,h2⟩:=j3 h.2
  refine⟨by simp[h1],fun t=> ?_⟩
  cases t with
  | zero=>exact h.1
  | succ t=>simpa using h2 t
 | [],_::_,h=>h.elim
 | _::_,[],h=>h.elim
theorem oG{α β:Type}(f:α→Sem β)(l:Array α)(w:World){vs:List β}(h:(l.toList.mapM f).run P w = .ok vs w):(l.mapM f).run P w = .ok vs.toArray w:=by
 rw[Array.mapM_eq_mapM_toList,Sem.run_map,h]
 rfl
def aFE:Nat→Nat→Prop:=fun _ _=>False
theorem Pure.of_body{f:FuncId}{fn:Func}{c:Code}(htb:TabOK P tb)(hf:P.funcs[f]? = some fn)(hname:(fn.name == "runtime.NumGoroutine")=false)(hb:fn.body=some c){args:List AVal}(hlen:args.length≤fn.ntmps)
  {vals:List (Σ T:Ty,T.den)} (h:∀Bw w0,W P fn.ntmps Bw w0 c (vG args) (Ret tb fn.results.toList vals)) (hid:uR args=true):Pure P f args (aX (bJ false vals)):=by
 refine⟨⟨fn,hf,hname,by rw[hb];rfl⟩,fun Bw w us hld hbw hargs=>calls_of_wp hf hb ?_⟩
 have hF0:∀β a v,Fr hX Bw w β a v→Fr (own aFE (vG args).h) Bw w β a v:=fun β a v hh=>⟨fun⟨_,_,_,_,h3⟩=>h3,hh.2⟩
 obtain⟨hl,hg⟩:=j3 hargs
 have hR:R fn.ntmps Bw (nH hld) (vG args) { tmps:=us++Array.replicate (fn.ntmps - us.size) undef,defers:=[] } w:=by
  refine⟨⟨lD,aFE,⟨fun id o h=>(by cases h),fun id o k h=>(by cases h),fun id id' o o' k h1=>(by cases h1),hbw,fun k ⟨_,_,_,_,h3⟩=>h3.elim,Kept.refl _,fun i u h=>(by cases h)⟩,⟨?_,rfl,fun t=> ?_⟩,fun id u hu=>(by cases hu)⟩,fun i u h=>(by cases h)⟩
  ·have:us.size=args.length:=by rw[hl,Array.length_toList]
   simp only[Array.size_append,Array.size_replicate]
   omega
  ·have hv:=V.mono hF0 (fun _ _ h=>h) (hg t)
   simp only[vG]
   rcases Nat.lt_or_ge t us.size with q | q
   ·have e:(us++Array.replicate (fn.ntmps - us.size) undef).getD t undef=(us.toList[t]?).getD undef:=by
     simp[Array.getD_eq_getD_getElem?,Array.getElem?_append,q]
    rw[e]
    exact hv
   ·have:args[t]? = none:=List.getElem?_eq_none (by rw[hl,Array.length_toList];exact q)
    rw[this]
    simp only[Option.getD_none,V]
 refine wp_mono (h Bw (nH hld) _ _ hR) fun e a' w' ⟨σ',hR',hq⟩=> ?_
 have key:∀xs Ts,L7 tb σ'.s σ'.h fn.results.toList=some xs→rC σ'.h xs Ts=some vals→a'.defers=[]∧∃v,(results fn a'.tmps).run P w' = .ok v w' ∧
   ∃v',Ending.returned v = .returned v'∧Below w.heap.size w w'∧V (fun _=>Fr hX Bw w' false) lD (aX (bJ false vals)) v':=fun xs Ts h1 h2=>by
  obtain⟨ρ,φ,q1,q2,_⟩:=hR'.ex
  obtain⟨vs,r1,r2⟩:=kC (P:=P) htb q1 q2 h1
  have r3:=rO q1 h2 r2
  have r4:=oG (P:=P) _ fn.results w' r1
  refine⟨q2.df,(if h:vs.toArray.size=1 then vs.toArray[0]else .tuple vs.toArray),?_,_,rfl,q1.kp.below,?_⟩
  ·unfold results
   rw[Sem.run_bind]
   exact(congrArg (fun r=>Result.andThen r (fun a w'=>Sem.run P (pure (if h:a.size=1 then a[0]else Value.tuple a)) w')) r4).trans rfl
  ·have hv2:=(j3 r3).1
   generalize bJ false vals=ys at r3 hv2 ⊢
   match ys,vs,r3 with
   | [],[],_=>simp only[aX,V];exact⟨#[],rfl,rfl,by simp only[VL]⟩
   | [y],[v],r3=>exact r3.1
   | y::y'::ys,v::v'::vs,r3 =>
    have:¬((v::v'::vs).toArray.size=1):=by simp
    rw[dif_neg this]
    simp only[aX,V]
    refine⟨_,rfl,by simpa using hv2.symm,VL.mk fun k x hk=> ?_⟩
    have:=(j3 r3).2 k
    rw[hk]at this
    have hk':k<(v::v'::vs).length:=by rw[←hv2];exact(List.getElem?_eq_some_iff.1 hk).1
    rw[List.getElem?_eq_getElem hk']at this
    exact⟨_,by simp[hk'],this⟩
 cases e with
 | normal =>
  obtain⟨xs,Ts,h1,h2⟩:=hq
  exact key xs Ts h1 h2
 | ret =>
  obtain⟨xs,Ts,h1,h2⟩:=hq
  exact key xs Ts h1 h2
 | exit _=>exact hq.elim
 | goto _=>exact hq.elim
 | panic _=>exact hq.elim
 | outgrown=>exact hq.elim
end
end Go.Tv
