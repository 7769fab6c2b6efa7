/- Code, functions: the rules. -/
import Derived.Test.YtflahpmlcfhpcaaGreatDoorTvO
namespace Go.Tv
open Go Go.RowKit
structure R{P:Program}(n:NS)(Bw:Nat→Prop)(w0:Base P)(σ:St)(a:Act)(w:World):Prop where
 ex:∃ρ φ,Mem Bw w0 ρ φ σ.h w∧Slots n (Fr (own φ σ.h) Bw w) ρ σ.s a∧∀id u,ρ id=some u→id<σ.nx
 pn:∀i u,w0.pin i=some u→i<σ.pn
def W(P:Program)(n:NS)(Bw:Nat→Prop)(w0:Base P)(c:Code)(σ:St)(Q:Exit→St→Prop):Prop :=
 ∀a w,R n Bw w0 σ a w→c.wp P (fun e a' w'=>∃σ',R n Bw w0 σ' a' w'∧Q e σ') a w
section
variable{P:Program}{n:NS}{Bw:Nat→Prop}{w0:Base P}{Q Q':Exit→St→Prop}{σ:St}
theorem W.mono{c:Code}(h:W P n Bw w0 c σ Q)(hq:∀e σ',Q e σ'→Q' e σ'):W P n Bw w0 c σ Q':=fun a w hr =>
 wp_mono (h a w hr) fun e a' w' ⟨σ',h1,h2⟩=>⟨σ',h1,hq _ _ h2⟩
theorem aDR(h:Q .normal σ):W P n Bw w0 .skip σ Q:=fun _ _ hr=>wp_skip ⟨σ,hr,h⟩
theorem aL(h:Q .ret σ):W P n Bw w0 .ret σ Q:=fun _ _ hr=>wp_ret ⟨σ,hr,h⟩
theorem aDM{id:Nat}(h:Q (.exit id) σ):W P n Bw w0 (.exit id) σ Q:=fun _ _ hr=>wp_exit ⟨σ,hr,h⟩
def C8(P:Program)(n:NS)(Bw:Nat→Prop)(w0:Base P)(d:Code)(Q:Exit→St→Prop):Exit→St→Prop
 | .normal,σ=>W P n Bw w0 d σ Q
 | e,σ=>Q e σ
theorem aC{c d:Code}(h:W P n Bw w0 c σ (C8 P n Bw w0 d Q)):W P n Bw w0 (.seq c d) σ Q:=fun a w hr =>
 wp_seq (wp_mono (h a w hr) fun e a' w' ⟨σ',h1,h2⟩=>by
  cases e with
  | normal=>exact h2 a' w' h1
  | _=>exact⟨σ',h1,h2⟩)
theorem X3{c:Operand}{x y:Code}{β b:Bool}(hc:ev σ.s c = .p β .bool b)(h1:b=true→W P n Bw w0 x σ Q)(h2:b=false→W P n Bw w0 y σ Q):W P n Bw w0 (.cond c x y) σ Q:=fun a w hr=>by
 obtain⟨ρ,φ,_,q2,_⟩:=hr.ex
 have hv:=bC q2 c
 rw[hc]at hv
 refine wp_cond (mX hv) ?_
 cases b with
 | true=>exact h1 rfl a w hr
 | false=>exact h2 rfl a w hr
def kH(id:Nat)(Q:Exit→St→Prop):Exit→St→Prop
 | .exit id',σ=>if id'=id then Q .normal σ else Q (.exit id') σ
 | e,σ=>Q e σ
theorem aF{id:Nat}{c:Code}(h:W P n Bw w0 c σ (kH id Q)):W P n Bw w0 (.block id c) σ Q:=fun a w hr =>
 wp_block (wp_mono (h a w hr) fun e a' w' ⟨σ',h1,h2⟩=>by
  cases e with
  | exit id' =>
   simp only[kH]at h2
   simp only[Exit.inBlock]
   split at h2
   ·rename_i e;rw[if_pos e];exact⟨σ',h1,h2⟩
   ·rename_i e;rw[if_neg e];exact⟨σ',h1,h2⟩
  | _=>exact⟨σ',h1,h2⟩)
theorem aBU(p:Nat→Prop)(h:∃k,p k):∃k,p k∧∀m,p m→k≤m:=by
 obtain⟨k,hk⟩:=h
 induction k using Nat.strongRecOn with
 | _ k ih =>
  by_cases hm:∃m,m<k∧p m
  ·obtain⟨m,h1,h2⟩:=hm
   exact ih m h1 h2
  ·exact⟨k,hk,fun m h2=>Nat.le_of_not_lt fun h1=>hm ⟨m,h1,h2⟩⟩
def Le(n:NS)(σ σ':St):Prop:=∀(P:Program) Bw (w0:Base P) a w,R n Bw w0 σ a w→R n Bw w0 σ' a w
theorem Le.refl(σ:St):Le n σ σ:=fun _ _ _ _ _ h=>h
theorem Le.trans{σ1 σ2 σ3:St}(h:Le n σ1 σ2)(k:Le n σ2 σ3):Le n σ1 σ3:=fun _ _ _ _ _ hr=>k _ _ _ _ _ (h _ _ _ _ _ hr)
theorem aDH{σ':St}{c:Code}(hl:Le n σ σ')(h:W P n Bw w0 c σ' Q):W P n Bw w0 c σ Q:=fun a w hr=>h a w (hl _ _ _ _ _ hr)
def aDx{α:Type}(n:NS)(Inv:Nat→α→Prop)(f:α→St)(k:Nat)(Q:Exit→St→Prop):Exit→St→Prop
 | .normal,σ=>∃m y,m<k∧Inv m y∧Le n σ (f y)
 | e,σ=>Q e σ
theorem aD2{α:Type}{c:Code}(Inv:Nat→α→Prop)(f:α→St)(h:∀k x,Inv k x→W P n Bw w0 c (f x) (aDx n Inv f k Q)){k:Nat}{x:α}(h0:Inv k x)(hl:Le n σ (f x)):
  W P n Bw w0 (.loop c) σ Q:=fun a w hr=>by
 let p:Act→World→Nat→Prop:=fun a w k=>∃x,Inv k x∧R n Bw w0 (f x) a w
 have hp:∀a w,(∃k,p a w k)→∃k,p a w k∧∀m,p a w m→k≤m:=fun a w=>aBU (p a w)
 classical
 let μ:Act→World→Nat:=fun a w=>if h:∃k,p a w k then(hp a w h).choose else 0
 have hμ:∀a w (h:∃k,p a w k),p a w (μ a w)∧∀m,p a w m→μ a w≤m:=fun a w h=>by
  simp only[μ,dif_pos h]
  exact(hp a w h).choose_spec
 refine Go.wp_loop (fun a w=>∃k,p a w k) μ ⟨k,x,h0,hl _ _ _ _ _ hr⟩ fun a w hi=> ?_
 obtain⟨⟨x,h1,h2⟩,_⟩:=hμ a w hi
 refine wp_mono (h _ x h1 a w h2) fun e a' w' ⟨σ',q1,q2⟩=> ?_
 cases e with
 | normal =>
  obtain⟨m,y,hm,hi',hle⟩:=q2
  have hpy:p a' w' m:=⟨y,hi',hle _ _ _ _ _ q1⟩
  exact⟨⟨m,hpy⟩,Nat.lt_of_le_of_lt ((hμ a' w' ⟨m,hpy⟩).2 m hpy) hm⟩
 | _=>exact⟨σ',q1,q2⟩
theorem R9{tb:Tab}(htb:TabOK P tb)(an:An){id:Nat}{ops:Array Oper}{s':Nat→AVal}{h':Nat→Option Obj}{cs:List Prop}(hr:aA6 P tb an n σ.nx ops ops.toList 0 σ.s σ.h=some (s',h',cs))(hc:oX cs)
  (hq:Q .normal ⟨s',h',σ.nx+8*ops.size,σ.pn⟩):W P n Bw w0 (.region id ops false) σ Q:=fun a w hR=>by
 obtain⟨ρ,φ,q1,q2,q3⟩:=hR.ex
 refine wp_region ?_
 have:=yP (P:=P) (tb:=tb) (an:=an) (n:=n) (base:=σ.nx) (ops:=ops) (Bw:=Bw) (w0:=w0) htb (Q:=fun e a' w'=>∃σ',R n Bw w0 σ' a' w'∧Q e σ') ops.toList 0 (a:=a) (w:=w)
  ⟨ρ,φ,q1,q2,fun id u hu=> .inl (q3 id u hu)⟩ (fun j=>by simp) hr hc (fun a' w' hm=>⟨_,?_,hq⟩)
 ·rw[←List.range_eq_range']at this
  simpa using this
 ·obtain⟨ρ',φ',r1,r2,r3⟩:=hm.ex
  refine⟨⟨ρ',φ',r1,r2,fun id u hu=> ?_⟩,hR.pn⟩
  simp only[Array.length_toList]at r3
  rcases r3 id u hu with h1 | ⟨i,j,h1,h2,h3⟩ <;> simp only <;> omega
theorem vU{tb:Tab}(htb:TabOK P tb)(an:An)(r:Nat){id:Nat}{ops:Array Oper}{s':Nat→AVal}{h':Nat→Option Obj}{cs:List Prop}{y:Value}(hr:pM P tb an n σ.nx ops r ops.toList 0 σ.s σ.h=some (s',h',cs,y))(hc:oX cs)
  (hq:Q (.panic [{ v:=y,recovered:=false }]) ⟨s',h',σ.nx+8*ops.size,σ.pn⟩):W P n Bw w0 (.region id ops false) σ Q:=fun a w hR=>by
 obtain⟨ρ,φ,q1,q2,q3⟩:=hR.ex
 refine wp_region ?_
 have:=tF (P:=P) (tb:=tb) (an:=an) (n:=n) (base:=σ.nx) (ops:=ops) (Bw:=Bw) (w0:=w0) htb (Q:=fun e a' w'=>∃σ',R n Bw w0 σ' a' w'∧Q e σ') r ops.toList 0 (a:=a) (w:=w)
  ⟨ρ,φ,q1,q2,fun id u hu=> .inl (q3 id u hu)⟩ (fun j=>by simp) hr hc (fun a' w' hm=>⟨_,?_,hq⟩)
 ·rw[←List.range_eq_range']at this
  simpa using this
 ·obtain⟨ρ',φ',r1,r2,r3⟩:=hm.ex
  refine⟨⟨ρ',φ',r1,r2,fun id u hu=> ?_⟩,hR.pn⟩
  simp only[Array.length_toList]at r3
  rcases r3 id u hu with h1 | ⟨i,j,h1,h2,h3⟩ <;> simp only <;> omega
def sS(fw:List (List Nat×List Nat))(i:Nat):List Nat:=match fw[i]? with | some p=>p.1 | none=>[]
def rZ(fw:List (List Nat×List Nat))(i:Nat):List Nat:=match fw[i]? with | some p=>p.2 | none=>[]
theorem vP{tb:Tab}{an:An}{base:Nat}{ops:Array Oper}:∀(l:List Oper) (k:Nat) {s s':Nat→AVal} {h h':Nat→Option Obj} {cs:List Prop} {fw:List (List Nat×List Nat)},N3 P tb an n base ops l k s h=some (s',h',cs,fw)→fw.length=l.length
 | [],_,_,_,_,_,_,_,hr=>by cases hr;rfl
 | o::l,k,s,s',h,h',cs,fw,hr=>by
  simp only[N3]at hr
  split at hr
  ·split at hr
   ·rename_i h2
    cases hr
    simp[vP l (k+1) h2]
   ·cases hr
  ·cases hr
theorem aDC{tb:Tab}(htb:TabOK P tb)(hm:P.follows .mixedOrders=true)(an:An){id:Nat}{ops:Array Oper}{s':Nat→AVal}{h':Nat→Option Obj}{cs:List Prop}{fw:List (List Nat×List Nat)}
  (hr:N3 P tb an n σ.nx ops ops.toList 0 σ.s σ.h=some (s',h',cs,fw)) (hx:aAR ops (sS fw) (rZ fw) (qU ops) ops.size 0 (Array.replicate ops.size false)=true) (hc:oX cs)
  (hq:Q .normal ⟨s',h',σ.nx+8*ops.size,σ.pn⟩):W P n Bw w0 (.region id ops true) σ Q:=fun a w hR=>by
 obtain⟨ρ,φ,q1,q2,q3⟩:=hR.ex
 obtain⟨q1',qF⟩:=q1.drew
 have hlen:=vP ops.toList 0 hr
 refine wp_region_any hm ?_
 have hA:=L6 (P:=P) (tb:=tb) (an:=an) (n:=n) (base:=σ.nx) (ops:=ops) (F:=sS fw) (W:=rZ fw) (Q:=fun s h=>s=s'∧h=h') ops.toList 0 (Array.replicate ops.size false) (fun j=>by simp)
  (fun j=>by
   simp only[Nat.zero_add]
   split
   ·rename_i hj
    have hj':j<fw.length:=by omega
    simp[sS,hj']
   ·rename_i hj
    have hj':fw.length≤j:=by omega
    simp[List.getElem?_eq_none hj'])
  (fun j=>by
   simp only[Nat.zero_add]
   split
   ·rename_i hj
    have hj':j<fw.length:=by omega
    simp[rZ,hj']
   ·rename_i hj
    have hj':fw.length≤j:=by omega
    simp[List.getElem?_eq_none hj'])
  (fun k o hk hl=>by simp[Array.getD]at hl) (by simpa using hx) hr hc ⟨rfl,rfl⟩
 have hA':aAL P tb an n σ.nx ops (sS fw) (rZ fw) (fun s h=>s=s'∧h=h') ops.size (Array.replicate ops.size false) σ.s σ.h:=by simpa using hA
 refine rU (P:=P) (tb:=tb) (an:=an) (n:=n) (base:=σ.nx) (ops:=ops) (Bw:=Bw) (w0:=w0) htb (fun s h a w hQA hmid=> ?_) ops.size _ (by simp) ⟨ρ,φ,q1',q2.mono qF (fun _ _ h=>h),fun id u hu=> .inl (q3 id u hu)⟩ hA'
 obtain⟨rfl,rfl⟩:=hQA
 obtain⟨ρ',φ',r1,r2,r3⟩:=hmid.ex
 refine⟨⟨s,h,σ.nx+8*ops.size,σ.pn⟩,⟨⟨ρ',φ',r1,r2,fun id u hu=> ?_⟩,hR.pn⟩,hq⟩
 rcases r3 id u hu with h1 | ⟨i,j,h1,h2,h3⟩ <;> simp only <;> omega
/-! ### States anew: what is dead is dropped,objects get new numbers -/
def aM(l:List (Nat×AVal))(m:List (Nat×Obj))(nx:Nat)(pn:Nat:=0):St:=⟨fun t=>(cK l t).getD .unk,fun i=>cK m i,nx,pn⟩
def SameS(f:Nat→Nat)(s:Nat→AVal):List (Nat×AVal)→Prop
 | []=>True
 | (t,x)::r=>s t=lG f x∧SameS f s r
def SameO(f:Nat→Nat)(h:Nat→Option Obj):List (Nat×Obj)→Prop
 | []=>True
 | (i,o)::r=>h (f i)=some (nU f o)∧SameO f h r
theorem SameS.get{f:Nat→Nat}{s:Nat→AVal}:∀ {l:List (Nat×AVal)},SameS f s l→∀ {t x},(t,x)∈l→s t=lG f x
 | (_,_)::_,h,t,x,hm=>by
  rcases List.mem_cons.1 hm with e | hm
  ·cases e;exact h.1
  ·exact SameS.get h.2 hm
theorem SameO.get{f:Nat→Nat}{h:Nat→Option Obj}:∀ {l:List (Nat×Obj)},SameO f h l→∀ {t x},(t,x)∈l→h (f t)=some (nU f x)
 | (_,_)::_,h,t,x,hm=>by
  rcases List.mem_cons.1 hm with e | hm
  ·cases e;exact h.1
  ·exact SameO.get h.2 hm
def lL(f:Nat→Nat)(l:List (Nat×AVal))(m:List (Nat×Obj))(nx pn:Nat):Bool :=
 (List.range pn).all (fun i=>f i == i && decide (i<nx)) &&
 l.all (fun p=>(b6 p.2).all (· < nx)) && m.all (fun p=>decide (p.1<nx) && (qV p.2).all (· < nx)) && m.all (fun p=>m.all fun q=>p.1 == q.1 || !(f p.1 == f q.1))
theorem aES(f:Nat→Nat){l:List (Nat×AVal)}{m:List (Nat×Obj)}{nx:Nat}(hs:SameS f σ.s l)(ho:SameO f σ.h m)(hok:lL f l m nx σ.pn=true):Le n σ (aM l m nx σ.pn):=fun P Bw w0 a w hr=>by
 obtain⟨ρ,φ,q1,q2,q3⟩:=hr.ex
 simp only[lL,Bool.and_eq_true,List.all_eq_true,decide_eq_true_eq,Bool.or_eq_true,beq_iff_eq,Bool.not_eq_true',beq_eq_false_iff_ne]at hok
 obtain⟨⟨⟨k0,k1⟩,k2⟩,k3⟩:=hok
 let ρ':Nat→Option Value:=fun i=>if i<nx then ρ (f i)else none
 let φ':Nat→Nat→Prop:=fun i=>φ (f i)
 have hρ':∀i,i<nx→ρ' i=ρ (f i):=fun i hi=>by simp only[ρ',if_pos hi]
 have hlook:∀i o,cK m i=some o→σ.h (f i)=some (nU f o)∧i<nx∧∀j∈qV o,j<nx:=fun i o hi=>by
  have hm:=mE hi
  exact⟨SameO.get ho hm,(k2 _ hm).1,(k2 _ hm).2⟩
 have hlive:∀o,(nU f o).live=o.live:=fun o=>f0
 have hown:∀k,own φ' (fun i=>cK m i) k→own φ σ.h k:=by
  rintro k ⟨id,o,h1,h2,h4⟩
  obtain⟨p1,p2,_⟩:=hlook id o h1
  exact⟨f id,_,p1,by rw[hlive];exact h2,h4⟩
 have hF:∀β a v,Fr (own φ σ.h) Bw w β a v→Fr (own φ' (fun i=>cK m i)) Bw w β a v:=fun β a v h=>⟨fun x=>h.1 (hown _ x),h.2⟩
 refine⟨⟨ρ',φ',⟨fun id o hid=> ?_,fun id o k h1 h2 h3=>q1.lt _ _ k (hlook id o h1).1 (by rw[hlive];exact h2) h3,fun id id' o o' k h1 h2 h3 h4 h5 h6=> ?_,q1.bw,fun k hk=>q1.ow k (hown k hk),q1.kp,fun i u hi=> ?_⟩,⟨q2.tm,q2.df,fun t=> ?_⟩,fun id u hu=> ?_⟩,hr.pn⟩
 ·obtain⟨p1,p2,p3⟩:=hlook id o hid
  obtain⟨u,r1,r2⟩:=q1.ob _ _ p1
  refine⟨u,by rw[hρ' id p2];exact r1,?_⟩
  cases o with
  | arr e A xs=>exact OR.mono (ρ:=ρ) (ρ':=ρ) (w:=w) (o:= .arr e A xs) hF (fun _ _ h=>h) (fun _ h=>h) (fun _ _ _=>rfl) r2
  | fz A xs =>
   simp only[nU,OR]at r2 ⊢
   exact sD rfl (V.mono hF (fun _ _ h=>h) r2)
  | mat e e2 A xss hole=>exact W5 (fun k id' e=>hρ' id' (p3 id' (by subst e;simp[qV]))) (OR.mono (ρ:=ρ) (ρ':=ρ) (w:=w) hF (fun _ _ h=>h) (fun _ h=>h) (fun _ _ _=>rfl) r2)
  | mpo K A kv=>exact OR.mono (ρ:=ρ) (ρ':=ρ) (w:=w) (o:= .mpo K A kv) hF (fun _ _ h=>h) (fun _ h=>h) (fun _ _ _=>rfl) r2
  | mpl K kv=>exact OR.mono (ρ:=ρ) (ρ':=ρ) (w:=w) (o:= .mpl K kv) hF (fun _ _ h=>h) (fun _ h=>h) (fun _ _ _=>rfl) r2
  | cutz A xs =>
   simp only[nU,OR]at r2 ⊢
   exact⟨r2.1,sD rfl (V.mono hF (fun _ _ h=>h) r2.2)⟩
  | bytes e xs=>exact OR.mono (ρ:=ρ) (ρ':=ρ) (w:=w) (o:= .bytes e xs) hF (fun _ _ h=>h) (fun _ h=>h) (fun _ _ _=>rfl) r2
  | lmp k n xs cs =>
   obtain⟨g,t,cells,e,sg,s1,s2,s3,s4⟩:=r2
   refine⟨g,t,cells,e,sg,s1,by rw[s2,bM],s3,?_⟩
   exact lY (fun i hi=>hρ' i (p3 i (by simpa only [qV]using hi))) (VL.mono hF (fun _ _ h=>h) (fun _ _ h=>h) s4)
  | vrow n sz cs =>
   obtain⟨g,t,cells,e,sg,s1,s2,s3,s4⟩:=r2
   refine⟨g,t,cells,e,sg,s1,by rw[s2,bM],by rw[←s3,bM],?_⟩
   exact lY (fun i hi=>hρ' i (p3 i (by simpa only [qV]using hi))) (VL.mono hF (fun _ _ h=>h) (fun _ _ h=>h) s4)
  | box cs =>
   obtain⟨g,t,cells,e,sg,s1,s2,s3⟩:=r2
   refine⟨g,t,cells,e,sg,s1,by rw[s2,bM],?_⟩
   exact lY (fun i hi=>hρ' i (p3 i (by simpa only [qV]using hi))) (VL.mono hF (fun _ _ h=>h) (fun _ _ h=>h) s3)
 ·obtain⟨p1,p2,_⟩:=hlook id o h1
  obtain⟨p1',p2',_⟩:=hlook id' o' h3
  have:=q1.dj _ _ _ _ k p1 (by rw[hlive];exact h2) p1' (by rw[hlive];exact h4) h5 h6
  rcases k3 _ (mE h1) _ (mE h3)with e | e
  ·exact e
  ·exact absurd this e
 ·have:=k0 i (List.mem_range.2 (hr.pn i u hi))
  rw[hρ' i this.2,this.1]
  exact q1.pin i u hi
 ·simp only[aM]
  cases hl:cK l t with
  | none=>simp only[Option.getD_none,V]
  | some x =>
   have hm:=mE hl
   have hv:=q2.sl t
   rw[SameS.get hs hm]at hv
   simp only[Option.getD_some]
   exact aDg (fun i hi=>hρ' i (k1 _ hm i hi)) (V.mono hF (fun _ _ h=>h) hv)
 ·simp only[ρ']at hu
  split at hu
  ·assumption
  ·cases hu
end
end Go.Tv
