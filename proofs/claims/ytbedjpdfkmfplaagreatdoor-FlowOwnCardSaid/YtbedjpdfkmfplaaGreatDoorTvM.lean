/- One operation of a region, in a state. -/
import Derived.Test.YtbedjpdfkmfplaaGreatDoorTvKz
import Derived.Orders
namespace Go.Tv
open Go Go.RowKit
structure An where
 asm:List (Nat×Bool)
 orc:List (Nat×Orc)
def rX(an:An)(n:NS)(ops:Array Oper)(g:Nat×Bool)(s:Nat→AVal):Option (Bool×Option Prop) :=
 match(ops[g.1]?).bind (·.dst)with
 | some d=>match s d,dL an.asm g.1 with
  | .p _ .bool b',some b=>if d<n.sz then some (b == g.2,some (b'=b))else none
  | .p _ .bool b',none=>if d<n.sz then some (b' == g.2,none)else none
  | .tup _,_=>some (false,none)
  | _,_=>none
 | none=>none
def prO:Option Prop→Prop
 | none=>True
 | some q=>q
def aIs:Option Prop→Prop→Prop
 | none,c=>c
 | some q,c=>q∧c
theorem aDD:∀ {q:Option Prop} {c:Prop},aIs q c→prO q
 | none,_,_=>trivial
 | some _,_,h=>h.1
theorem aH1:∀ {q:Option Prop} {c:Prop},aIs q c→c
 | none,_,h=>h
 | some _,_,h=>h.2
def eJ(s:Nat→AVal)(d:Option Nat)(x:AVal):Nat→AVal :=
 match d with
 | some d=>upd s d x
 | none=>s
def R5(n:NS)(d:Option Nat):Bool :=
 match d with
 | some d=>decide (d<n.sz)
 | none=>true
def tH(P:Program)(tb:Tab)(an:An)(n:NS)(base:Nat)(ops:Array Oper)(i:Nat)(o:Oper)(s:Nat→AVal)(h:Nat→Option Obj):Option iL :=
 if R5 n o.dst∧aHa (dL an.orc i)=none then
  match o.guard with
  | none=>sem P tb (base+8*i) (dL an.asm i) (dL an.orc i) o.op s h
  | some g=>match rX an n ops g s with
   | some (true,q)=>match sem P tb (base+8*i) (dL an.asm i) (dL an.orc i) o.op s h with
    | some (x,u,c)=>some (x,u,aIs q c)
    | none=>none
   | some (false,q)=>some (.tup [],[],prO q)
   | none=>none
 else none
section
variable{P:Program}{tb:Tab}{an:An}{n:NS}{base:Nat}{ops:Array Oper}{Bw:Nat→Prop}{w0:Base P}
structure Mid{P:Program}(n:NS)(base:Nat)(Bw:Nat→Prop)(w0:Base P)(done:Nat→Prop)(s:Nat→AVal)(h:Nat→Option Obj)(a:Act)(w:World):Prop where
 ex:∃ρ φ,Mem Bw w0 ρ φ h w∧Slots n (Fr (own φ h) Bw w) ρ s a∧∀id u,ρ id=some u→id<base∨∃i j,done i∧j<8∧id=base+8*i+j
theorem Slots.putD{F:Bool→Addr→Value→Prop}{ρ:Nat→Option Value}{s:Nat→AVal}{a:Act}(h:Slots n F ρ s a){x:AVal}{v:Value}(hv:V F ρ x v){d:Option Nat}(hd:R5 n d=true):
  Slots n F ρ (eJ s d x) (a.put d v):=by
 cases d with
 | none=>exact h
 | some d=>exact h.put hv (by simpa [R5]using hd)
theorem pK{F:Bool→Addr→Value→Prop}{ρ:Nat→Option Value}{s:Nat→AVal}{a:Act}(hs:Slots n F ρ s a){o:Oper}{g:Nat×Bool}(ho:o.guard=some g){b:Bool}{q:Option Prop}(h:rX an n ops g s=some (b,q))(hg:prO q):
  Region.wanted o (yielded ops a.tmps)=b:=by
 obtain⟨j,sY⟩:=g
 unfold rX at h
 unfold Region.wanted
 rw[ho]
 simp only at h ⊢
 split at h
 ·rename_i d hd
  split at h
  ·rename_i β b' b hb ha
   split at h
   ·rename_i hlt
    cases h
    replace hg:b'=b:=hg
    subst hg
    have hv:=hs.sl d
    rw[hb]at hv
    have hv':=l4 hv
    have hlt':d<a.tmps.size:=by rw[hs.tm];exact hlt
    have:a.tmps[d]? = some (.bool b'):=by
     rw[Array.getElem?_eq_getElem hlt']
     simp only[Array.getD,hlt',dif_pos]at hv'
     simpa using hv'
    simp only[yielded,hd,Option.bind_some,this]
    cases b' <;> cases sY <;> rfl
   ·cases h
  ·rename_i β b' hb ha
   split at h
   ·rename_i hlt
    cases h
    have hv:=hs.sl d
    rw[hb]at hv
    have hv':=l4 hv
    have hlt':d<a.tmps.size:=by rw[hs.tm];exact hlt
    have:a.tmps[d]? = some (.bool b'):=by
     rw[Array.getElem?_eq_getElem hlt']
     simp only[Array.getD,hlt',dif_pos]at hv'
     simpa using hv'
    simp only[yielded,hd,Option.bind_some,this]
    cases b' <;> cases sY <;> rfl
   ·cases h
  ·rename_i _ cs hb
   cases h
   have hv:=hs.sl d
   rw[hb]at hv
   simp only[V]at hv
   obtain⟨vs,e,_⟩:=hv
   simp only[yielded,hd,Option.bind_some]
   rcases Nat.lt_or_ge d a.tmps.size with hlt | hlt
   ·have:a.tmps[d]? = some (.tuple vs):=by
     rw[Array.getElem?_eq_getElem hlt]
     simp only[Array.getD,hlt,dif_pos]at e
     simpa using e
    rw[this]
    rfl
   ·rw[Array.getElem?_eq_none hlt]
    rfl
  ·cases h
 ·cases h
theorem lK(htb:TabOK P tb){done:Nat→Prop}{s:Nat→AVal}{h:Nat→Option Obj}{a:Act}{w:World}(hm:Mid n base Bw w0 done s h a w){i:Nat}{o:Oper}(hi:ops[i]? = some o)(hd:¬done i)
  {x:AVal} {u:jJ} {c:Prop} (hx:tH P tb an n base ops i o s h=some (x,u,c)) (hc:c) {K:Act→World→Prop} {Q:Exit→Act→World→Prop}
  (hk:∀a' w',Mid n base Bw w0 (fun j=>done j∨j=i) (eJ s o.dst x) (apply u h) a' w'→K a' w'):wpOp P ops Q i K a w:=by
 obtain⟨ρ,φ,m,hs,hid⟩:=hm.ex
 unfold tH at hx
 split at hx
 ·rename_i hdst'
  obtain⟨hdst,hdie⟩:=hdst'
  have run:∀ {c':Prop},sem P tb (base+8*i) (dL an.asm i) (dL an.orc i) o.op s h=some (x,u,c')→c'→o.wp P a w K Q:=fun hsem hc'=>by
   have hn:∀j,j<8→ρ (base+8*i+j)=none:=fun j hj=>by
    cases hq:ρ (base+8*i+j)with
    | none=>rfl
    | some v =>
     rcases hid _ _ hq with h1 | ⟨i',j',h1,h2,h3⟩
     ·omega
     ·exact absurd (by rwa [show i=i' by omega]) hd
   refine aHF htb m hs hn hdie hsem hc' K Q fun v w' ⟨ρ',φ',q1,q2,q3,q4,q5⟩=>hk _ _ ⟨ρ',φ',q1,(hs.mono q2 q3).putD q5 hdst,fun id v hv=> ?_⟩
   rcases q4 id v hv with h1 | h1
   ·rcases hid id v h1 with h2 | ⟨i',j,h2,h3⟩
    ·exact .inl h2
    ·exact .inr ⟨i',j,.inl h2,h3⟩
   ·obtain⟨j,h1,h2⟩:=h1
    exact .inr ⟨i,j,.inr rfl,h1,h2⟩
  unfold wpOp
  rw[hi]
  simp only
  split at hx
  ·rename_i hg
   have hw:Region.wanted o (yielded ops a.tmps)=true:=by unfold Region.wanted;rw[hg]
   rw[if_pos hw]
   exact .inl (run hx hc)
  ·rename_i g ho
   split at hx
   ·rename_i q hg
    split at hx
    ·rename_i x' u' c' hsem
     cases hx
     have hw:=pK hs ho hg (aDD hc)
     rw[if_pos hw]
     exact .inl (run hsem (aH1 hc))
    ·cases hx
   ·rename_i q hg
    cases hx
    have hw:=pK hs ho hg hc
    rw[if_neg (by rw[hw];simp)]
    refine hk _ _ ⟨ρ,φ,m,hs.putD (by simp only[V];exact⟨#[],rfl,rfl,by simp only[VL]⟩) hdst,fun id v hv=> ?_⟩
    rcases hid id v hv with h2 | ⟨i',j,h2,h3⟩
    ·exact .inl h2
    ·exact .inr ⟨i',j,.inl h2,h3⟩
   ·cases hx
 ·cases hx
def aC4(P:Program)(tb:Tab)(an:An)(n:NS)(base:Nat)(ops:Array Oper)(i:Nat)(o:Oper)(s:Nat→AVal)(h:Nat→Option Obj):Option (jJ×Value×Prop) :=
 match aCU o.op (dL an.orc i)with
 | some y=>match o.guard with
  | none=>match sem P tb (base+8*i) (dL an.asm i) (dL an.orc i) o.op s h with
   | some (_,u,c)=>some (u,y,c)
   | none=>none
  | some g=>match rX an n ops g s with
   | some (true,q)=>match sem P tb (base+8*i) (dL an.asm i) (dL an.orc i) o.op s h with
    | some (_,u,c)=>some (u,y,aIs q c)
    | none=>none
   | _=>none
 | none=>none
theorem P7{done:Nat→Prop}{s:Nat→AVal}{h:Nat→Option Obj}{a:Act}{w:World}(hm:Mid n base Bw w0 done s h a w){i:Nat}{o:Oper}(hi:ops[i]? = some o)(hd:¬done i)
  {u:jJ} {y:Value} {c:Prop} (hx:aC4 P tb an n base ops i o s h=some (u,y,c)) (hc:c) {K:Act→World→Prop} {Q:Exit→Act→World→Prop}
  (hk:∀w',Mid n base Bw w0 (fun j=>done j∨j=i) s (apply u h) a w'→Q (.panic [{ v:=y,recovered:=false }]) a w'):wpOp P ops Q i K a w:=by
 obtain⟨ρ,φ,m,hs,hid⟩:=hm.ex
 unfold aC4 at hx
 split at hx
 ·rename_i y' hdy
  have run:∀ {x:AVal} {c':Prop},sem P tb (base+8*i) (dL an.asm i) (dL an.orc i) o.op s h=some (x,u,c')→c'→y'=y→o.wp P a w K Q:=fun hsem hc' ey=>by
   subst ey
   have hn:∀j,j<8→ρ (base+8*i+j)=none:=fun j hj=>by
    cases hq:ρ (base+8*i+j)with
    | none=>rfl
    | some v =>
     rcases hid _ _ hq with h1 | ⟨i',j',h1,h2,h3⟩
     ·omega
     ·exact absurd (by rwa [show i=i' by omega]) hd
   refine aIq m hs hn hdy hsem hc' K Q fun w' ⟨v,ρ',φ',q1,q2,q3,q4,_⟩=>hk w' ⟨ρ',φ',q1,hs.mono q2 q3,fun id v hv=> ?_⟩
   rcases q4 id v hv with h1 | h1
   ·rcases hid id v h1 with h2 | ⟨i',j,h2,h3⟩
    ·exact .inl h2
    ·exact .inr ⟨i',j,.inl h2,h3⟩
   ·obtain⟨j,h1,h2⟩:=h1
    exact .inr ⟨i,j,.inr rfl,h1,h2⟩
  unfold wpOp
  rw[hi]
  simp only
  split at hx
  ·rename_i hg
   have hw:Region.wanted o (yielded ops a.tmps)=true:=by unfold Region.wanted;rw[hg]
   rw[if_pos hw]
   split at hx
   ·rename_i hsem
    cases hx
    exact .inl (run hsem hc rfl)
   ·cases hx
  ·rename_i g ho
   split at hx
   ·rename_i q hg
    split at hx
    ·rename_i hsem
     cases hx
     have hw:=pK hs ho hg (aDD hc)
     rw[if_pos hw]
     exact .inl (run hsem (aH1 hc) rfl)
    ·cases hx
   ·cases hx
 ·cases hx
def aGq(P:Program)(tb:Tab)(an:An)(n:NS)(base:Nat)(ops:Array Oper):List Oper→Nat→(Nat→AVal)→(Nat→Option Obj)→Option ((Nat→AVal)×(Nat→Option Obj)×List Prop)
 | [],_,s,h=>some (s,h,[])
 | o::r,k,s,h=>match tH P tb an n base ops k o s h with
  | some (x,u,c)=>match aGq P tb an n base ops r (k+1) (eJ s o.dst x) (apply u h)with
   | some (s',h',cs)=>some (s',h',c::cs)
   | none=>none
  | none=>none
def u5:List Prop→Prop
 | []=>True
 | c::cs=>c∧u5 cs
theorem V9(htb:TabOK P tb){Q:Exit→Act→World→Prop}:∀(l:List Oper) (k:Nat) {s:Nat→AVal} {h:Nat→Option Obj} {a:Act} {w:World},Mid n base Bw w0 (fun j=>j<k) s h a w→(∀j,l[j]? = ops[k+j]?) →
  ∀ {s':Nat→AVal} {h':Nat→Option Obj} {cs:List Prop},aGq P tb an n base ops l k s h=some (s',h',cs)→u5 cs→(∀a' w',Mid n base Bw w0 (fun j=>j<k+l.length) s' h' a' w'→Q .normal a' w') →
  wpOps P ops Q (List.range' k l.length) a w
 | [],k,s,h,a,w,hm,_,s',h',cs,hr,hc,hq=>by
  cases hr
  exact hq a w (by simpa using hm)
 | o::l,k,s,h,a,w,hm,hl,s',h',cs,hr,hc,hq=>by
  have h0:ops[k]? = some o:=by simpa using(hl 0).symm
  simp only[aGq]at hr
  split at hr
  ·rename_i x u c hx
   split at hr
   ·rename_i s2 h2 cs2 hr2
    cases hr
    simp only[List.length_cons,List.range'_succ,wpOps_cons]
    refine lK htb hm h0 (Nat.lt_irrefl k) hx hc.1 fun a' w' hm'=> ?_
    refine V9 htb l (k+1) ?_ (fun j=>by have:=hl (j+1);simpa [Nat.add_assoc,Nat.add_comm 1 j]using this) hr2 hc.2 (fun a' w' hm=>hq a' w' (by simpa [Nat.add_assoc,Nat.add_comm 1]using hm))
    obtain⟨ρ,φ,q1,q2,q3⟩:=hm'.ex
    refine⟨ρ,φ,q1,q2,fun id v hv=> ?_⟩
    rcases q3 id v hv with h3 | ⟨j,j2,h3,h4⟩
    ·exact .inl h3
    ·exact .inr ⟨j,j2,by omega,h4⟩
   ·cases hr
  ·cases hr
def uY(P:Program)(tb:Tab)(an:An)(n:NS)(base:Nat)(ops:Array Oper):Nat→List Oper→Nat→(Nat→AVal)→(Nat→Option Obj)→Option ((Nat→AVal)×(Nat→Option Obj)×List Prop×Value)
 | _,[],_,_,_=>none
 | 0,o::_,k,s,h=>match aC4 P tb an n base ops k o s h with
  | some (u,y,c)=>some (s,apply u h,[c],y)
  | none=>none
 | r+1,o::l,k,s,h=>match tH P tb an n base ops k o s h with
  | some (x,u,c)=>match uY P tb an n base ops r l (k+1) (eJ s o.dst x) (apply u h)with
   | some (s',h',cs,y)=>some (s',h',c::cs,y)
   | none=>none
  | none=>none
theorem zD(htb:TabOK P tb){Q:Exit→Act→World→Prop}:∀(r:Nat) (l:List Oper) (k:Nat) {s:Nat→AVal} {h:Nat→Option Obj} {a:Act} {w:World},Mid n base Bw w0 (fun j=>j<k) s h a w→(∀j,l[j]? = ops[k+j]?) →
  ∀ {s':Nat→AVal} {h':Nat→Option Obj} {cs:List Prop} {y:Value},uY P tb an n base ops r l k s h=some (s',h',cs,y)→u5 cs→(∀a' w',Mid n base Bw w0 (fun j=>j<k+l.length) s' h' a' w'→Q (.panic [{ v:=y,recovered:=false }]) a' w') →
  wpOps P ops Q (List.range' k l.length) a w
 | _,[],k,s,h,a,w,hm,_,s',h',cs,y,hr,hc,hq=>by simp[uY]at hr
 | 0,o::l,k,s,h,a,w,hm,hl,s',h',cs,y,hr,hc,hq=>by
  have h0:ops[k]? = some o:=by simpa using(hl 0).symm
  simp only[uY]at hr
  split at hr
  ·rename_i u y' c hx
   cases hr
   simp only[List.length_cons,List.range'_succ,wpOps_cons]
   refine P7 hm h0 (Nat.lt_irrefl k) hx hc.1 fun w' hm'=>hq a w' ?_
   obtain⟨ρ,φ,q1,q2,q3⟩:=hm'.ex
   refine⟨ρ,φ,q1,q2,fun id v hv=> ?_⟩
   rcases q3 id v hv with h3 | ⟨j,j2,h3,h4⟩
   ·exact .inl h3
   ·refine .inr ⟨j,j2,?_,h4⟩
    simp only[List.length_cons]
    omega
  ·cases hr
 | r+1,o::l,k,s,h,a,w,hm,hl,s',h',cs,y,hr,hc,hq=>by
  have h0:ops[k]? = some o:=by simpa using(hl 0).symm
  simp only[uY]at hr
  split at hr
  ·rename_i x u c hx
   split at hr
   ·rename_i s2 h2 cs2 y2 hr2
    cases hr
    simp only[List.length_cons,List.range'_succ,wpOps_cons]
    refine lK htb hm h0 (Nat.lt_irrefl k) hx hc.1 fun a' w' hm'=> ?_
    refine zD htb r l (k+1) ?_ (fun j=>by have:=hl (j+1);simpa [Nat.add_assoc,Nat.add_comm 1 j]using this) hr2 hc.2 (fun a' w' hm=>hq a' w' (by simpa [Nat.add_assoc,Nat.add_comm 1]using hm))
    obtain⟨ρ,φ,q1,q2,q3⟩:=hm'.ex
    refine⟨ρ,φ,q1,q2,fun id v hv=> ?_⟩
    rcases q3 id v hv with h3 | ⟨j,j2,h3,h4⟩
    ·exact .inl h3
    ·exact .inr ⟨j,j2,by omega,h4⟩
   ·cases hr
  ·cases hr
end
end Go.Tv
