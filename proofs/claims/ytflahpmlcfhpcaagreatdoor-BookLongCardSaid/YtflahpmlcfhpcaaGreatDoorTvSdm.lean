/- Short forms for printed walks. -/
import Derived.Test.YtflahpmlcfhpcaaGreatDoorTvSam
import Derived.KernelRfl
namespace Go.Tv
open Go
theorem tt:True:=trivial
def Ts:Nat→List Prop→List Prop
 | 0,l=>l
 | n+1,l=>True::Ts n l
theorem tr:∀(n:Nat) {l:List Prop},oX l→oX (Ts n l)
 | 0,_,h=>h
 | n+1,_,h=>⟨trivial,tr n h⟩
theorem sI{α:Type}{a b:α}(h:some a=some b):a=b:=Option.some.inj h
theorem nl{a b:Nat}(h:Nat.ble a b=true):a≤b:=Nat.le_of_ble_eq_true h
def pO{p:Prop}(_:p):Prop:=p
section
variable{P:Program}{n:NS}{Bw:Nat→Prop}{w0:Base P}{σ:St}{Q:Exit→St→Prop}{tb:Tab}
theorem gl(gs:List G)(f:List Nat){l:List (Nat×AVal)}{m:List (Nat×Obj)}{nx pn:Nat}(h:(H4 gs f l m σ,(σ.pn == pn && lL (fnL f) l m nx pn))=(some (y7 f l m),true)):Le n σ (aM l m nx pn):=xB (Prod.mk.inj h).1 (Prod.mk.inj h).2
end
end Go.Tv
namespace Go.Tv
open Go
structure PP where
 p:Prop
 h:p
def oc{p:Prop}(h:p):PP:=⟨p,h⟩
def cP:Nat→Nat→List (Nat×Nat×PP)→List Prop
 | 0,_,_=>[]
 | k+1,i,[]=>True::cP k (i+1) []
 | k+1,i,(j,e,c)::r=>match Nat.blt i j,Nat.blt i e with
  | true,_=>True::cP k (i+1) ((j,e,c)::r)
  | false,true=>c.p::cP k (i+1) ((j,e,c)::r)
  | false,false=>c.p::cP k (i+1) r
theorem zA:∀(k i:Nat) (l:List (Nat×Nat×PP)),oX (cP k i l)
 | 0,_,_=>trivial
 | k+1,i,[]=>⟨trivial,zA k (i+1) []⟩
 | k+1,i,(j,e,c)::r=>by
  unfold cP
  split
  ·exact⟨trivial,zA k (i+1) _⟩
  ·exact⟨c.h,zA k (i+1) _⟩
  ·exact⟨c.h,zA k (i+1) _⟩
def an{p:Prop}(h:p):PP:=oc (And.intro h trivial)
def ct:List Bool:=List.replicate 40 true
def a0:An:=⟨[],[]⟩
section
variable{P:Program}{fid:FuncId}{args:List AVal}{hin:List (Nat×Obj)}
def oP{r:AVal}(_:Pure P fid args r)(fl:List Bool:=[])(cn:List Bool:=ct):Orc:=⟨r,fl,false,cn,[],[],none⟩
def oO{r:AVal}{hout:List (Nat×Obj)}(_:Owns P fid args hin r hout)(g:List Nat)(fl:List Bool:=[])(cn:List Bool:=ct):Orc:=⟨r,fl,true,cn,g,hout,none⟩
def oD{x:Value}(_:Dies P fid args hin x)(g:List Nat)(fl:List Bool:=[])(cn:List Bool:=ct):Orc:=⟨.unk,fl,true,cn,g,[],some x⟩
end
theorem gg{n:NS}{σ:St}(gs:List G)(f:List Nat){l:List (Nat×AVal)}{m:List (Nat×Obj)}{nx pn:Nat}(h:(H4 gs f l m σ,(σ.pn == pn && lL (fnL f) l m nx pn))=(some (y7 f l m),true):=by kernel_rfl):Le n σ (aM l m nx pn):=gl gs f h
theorem g2{α:Type}{p q:Prop}[Decidable p][Decidable q]{x:Option α}{r:α}(h:(if p then(if q then x else none)else none)=some r):p∧q∧x=some r:=⟨(aQ h).1,aQ (aQ h).2⟩
theorem g3{α:Type}{p q s:Prop}[Decidable p][Decidable q][Decidable s]{x:Option α}{r:α}(h:(if p then(if q then(if s then x else none)else none)else none)=some r):p∧q∧s∧x=some r:=⟨(aQ h).1,g2 (aQ h).2⟩
theorem g4{α:Type}{p q s t:Prop}[Decidable p][Decidable q][Decidable s][Decidable t]{x:Option α}{r:α}(h:(if p then(if q then(if s then(if t then x else none)else none)else none)else none)=some r):p∧q∧s∧t∧x=some r:=⟨(aQ h).1,g3 (aQ h).2⟩
theorem aR{α:Type}{b:Bool}{x y:Option α}{r:α}(h:(if b=true then x else y)=some r):(b=true∧x=some r)∨(b=false∧y=some r):=by
 cases b with
 | true=>exact .inl ⟨rfl,h⟩
 | false=>exact .inr ⟨rfl,h⟩
section
variable{P:Program}{n:NS}{Bw:Nat→Prop}{w0:Base P}{σ σ1:St}{Q:Exit→St→Prop}{tb:Tab}
def gO(P:Program)(tb:Tab)(an:An)(n:NS)(ops:Array Oper)(σ:St):St :=
 match aA6 P tb an n σ.nx ops ops.toList 0 σ.s σ.h with
 | some (s,h,_)=>⟨s,h,σ.nx+8*ops.size,σ.pn⟩
 | none=>σ
def gN(P:Program)(tb:Tab)(an:An)(n:NS)(ops:Array Oper)(σ:St):Option (List Prop) :=
 match aA6 P tb an n σ.nx ops ops.toList 0 σ.s σ.h with
 | some (_,_,c)=>some c
 | none=>none
def M1(P:Program)(tb:Tab)(an:An)(n:NS)(ops:Array Oper)(σ:St):St :=
 match N3 P tb an n σ.nx ops ops.toList 0 σ.s σ.h with
 | some (s,h,_,_)=>⟨s,h,σ.nx+8*ops.size,σ.pn⟩
 | none=>σ
def Q8(P:Program)(tb:Tab)(an:An)(n:NS)(ops:Array Oper)(σ:St):Option (List Prop) :=
 match N3 P tb an n σ.nx ops ops.toList 0 σ.s σ.h with
 | some (_,_,c,fw)=>match aAR ops (sS fw) (rZ fw) (qU ops) ops.size 0 (Array.replicate ops.size false)with
  | true=>some c
  | false=>none
 | none=>none
def N0(P:Program)(tb:Tab)(an:An)(n:NS)(ops:Array Oper)(r:Nat)(σ:St):Option (List Prop×Value) :=
 match pM P tb an n σ.nx ops r ops.toList 0 σ.s σ.h with
 | some (_,_,c,y)=>some (c,y)
 | none=>none
theorem aA{d:Code}(h:W P n Bw w0 d σ1 Q):∀σ',Le n σ' σ1→C8 P n Bw w0 d Q .normal σ':=fun _ hl=>aDH hl h
def aAA(gs:List G)(σ:St):St :=
 match pX gs σ with
 | some σ'=>σ'
 | none=>σ
theorem qQ(gs:List G){c:Code}(h:(pX gs σ).isSome=true)(hq:W P n Bw w0 c (aAA gs σ) Q):W P n Bw w0 c σ Q:=by
 unfold aAA at hq
 split at hq
 ·rename_i σ' e
  exact aDH (uT e) hq
 ·rename_i e
  rw[e]at h
  cases h
theorem aCi(htb:TabOK P tb)(an:An){id:Nat}{ops:Array Oper}(cs:List (Nat×Nat×PP))
  (h:gN P tb an n ops σ=some (cP ops.size 0 cs)) (hq:∀σ',Le n σ' (gO P tb an n ops σ)→Q .normal σ'):W P n Bw w0 (.region id ops false) σ Q:=by
 unfold gN at h
 unfold gO at hq
 split at h
 ·rename_i s hh c hr
  cases h
  rw[hr]at hq
  exact R9 htb an hr (zA _ _ _) (hq _ (Le.refl _))
 ·cases h
theorem W_g(htb:TabOK P tb)(an:An){id:Nat}{ops:Array Oper}{d:Code}(cs:List (Nat×Nat×PP))
  (h:gN P tb an n ops σ=some (cP ops.size 0 cs)) (hq:W P n Bw w0 d (gO P tb an n ops σ) Q):W P n Bw w0 (.seq (.region id ops false) d) σ Q :=
 aC (aCi htb an cs h (aA hq))
theorem aFu(htb:TabOK P tb)(hm:P.follows .mixedOrders=true)(an:An){id:Nat}{ops:Array Oper}(cs:List (Nat×Nat×PP))
  (h:Q8 P tb an n ops σ=some (cP ops.size 0 cs)) (hq:∀σ',Le n σ' (M1 P tb an n ops σ)→Q .normal σ'):W P n Bw w0 (.region id ops true) σ Q:=by
 unfold Q8 at h
 unfold M1 at hq
 split at h
 ·rename_i s hh c fw hr
  split at h
  ·rename_i hx
   cases h
   rw[hr]at hq
   exact aDC htb hm an hr hx (zA _ _ _) (hq _ (Le.refl _))
  ·cases h
 ·cases h
theorem W_d(htb:TabOK P tb)(hm:P.follows .mixedOrders=true)(an:An){id:Nat}{ops:Array Oper}{d:Code}(cs:List (Nat×Nat×PP))
  (h:Q8 P tb an n ops σ=some (cP ops.size 0 cs)) (hq:W P n Bw w0 d (M1 P tb an n ops σ) Q):W P n Bw w0 (.seq (.region id ops true) d) σ Q :=
 aC (aFu htb hm an cs h (aA hq))
def cG:Nat→Nat→Prop→List Prop
 | 0,_,_=>[]
 | k+1,0,p=>p::Ts k []
 | k+1,i+1,p=>True::cG k i p
theorem aDr:∀(k i:Nat) {p:Prop},p→oX (cG k i p)
 | 0,_,_,_=>trivial
 | k+1,0,_,h=>⟨h,tr k trivial⟩
 | k+1,i+1,_,h=>⟨trivial,aDr k i h⟩
theorem aDq(htb:TabOK P tb)(i:Nat){α:Type}{p:Prop}[Decidable p]{u:Option α}{r:α}(h:(if p then u else none)=some r){id:Nat}{ops:Array Oper}
  (hk:gN P tb a0 n ops σ=some (cG ops.size i p)) (hq:u=some r→∀σ',Le n σ' (gO P tb a0 n ops σ)→Q .normal σ'):W P n Bw w0 (.region id ops false) σ Q:=by
 obtain⟨hp,hu⟩:=aQ h
 replace hq:=hq hu
 unfold gN at hk
 unfold gO at hq
 split at hk
 ·rename_i s hh c hr
  cases hk
  rw[hr]at hq
  exact R9 htb a0 hr (aDr _ _ hp) (hq _ (Le.refl _))
 ·cases hk
theorem aFU(htb:TabOK P tb)(i:Nat){α:Type}{p:Prop}[Decidable p]{u:Option α}{r:α}(h:(if p then u else none)=some r){id:Nat}{ops:Array Oper}{d:Code}
  (hk:gN P tb a0 n ops σ=some (cG ops.size i p)) (hq:u=some r→W P n Bw w0 d (gO P tb a0 n ops σ) Q):W P n Bw w0 (.seq (.region id ops false) d) σ Q :=
 aC (aDq htb i h hk fun hu=>aA (hq hu))
theorem aEU(htb:TabOK P tb)(i:Nat){fid:FuncId}{args:List AVal}{r:AVal}(u:Pure P fid args r){id:Nat}{ops:Array Oper}
  (h:gN P tb ⟨[],[(i,oP u)]⟩ n ops σ=some (cP ops.size 0 [(i,i,oc u)])) (hq:∀σ',Le n σ' (gO P tb ⟨[],[(i,oP u)]⟩ n ops σ)→Q .normal σ'):W P n Bw w0 (.region id ops false) σ Q:=aCi htb _ _ h hq
theorem aF6(htb:TabOK P tb)(i:Nat){fid:FuncId}{args:List AVal}{r:AVal}(u:Pure P fid args r){id:Nat}{ops:Array Oper}{d:Code}
  (h:gN P tb ⟨[],[(i,oP u)]⟩ n ops σ=some (cP ops.size 0 [(i,i,oc u)])) (hq:W P n Bw w0 d (gO P tb ⟨[],[(i,oP u)]⟩ n ops σ) Q):W P n Bw w0 (.seq (.region id ops false) d) σ Q:=W_g htb _ _ h hq
theorem aEK(htb:TabOK P tb)(i:Nat)(g:List Nat){fid:FuncId}{args:List AVal}{hin hout:List (Nat×Obj)}{r:AVal}(u:Owns P fid args hin r hout){id:Nat}{ops:Array Oper}
  (h:gN P tb ⟨[],[(i,oO u g)]⟩ n ops σ=some (cP ops.size 0 [(i,i,oc u)])) (hq:∀σ',Le n σ' (gO P tb ⟨[],[(i,oO u g)]⟩ n ops σ)→Q .normal σ'):W P n Bw w0 (.region id ops false) σ Q:=aCi htb _ _ h hq
theorem aF2(htb:TabOK P tb)(i:Nat)(g:List Nat){fid:FuncId}{args:List AVal}{hin hout:List (Nat×Obj)}{r:AVal}(u:Owns P fid args hin r hout){id:Nat}{ops:Array Oper}{d:Code}
  (h:gN P tb ⟨[],[(i,oO u g)]⟩ n ops σ=some (cP ops.size 0 [(i,i,oc u)])) (hq:W P n Bw w0 d (gO P tb ⟨[],[(i,oO u g)]⟩ n ops σ) Q):W P n Bw w0 (.seq (.region id ops false) d) σ Q:=W_g htb _ _ h hq
theorem W_x(htb:TabOK P tb){fid:FuncId}{args:List AVal}{hin:List (Nat×Obj)}{y:Value}(_:Dies P fid args hin y)(an:An)(r:Nat){id:Nat}{ops:Array Oper}(cs:List (Nat×Nat×PP))
  (h:N0 P tb an n ops r σ=some (cP (r+1) 0 cs,y)) (hq:∀σ',Q (.panic [{ v:=y,recovered:=false }]) σ'):W P n Bw w0 (.region id ops false) σ Q:=by
 unfold N0 at h
 split at h
 ·rename_i s hh c y' hr
  cases h
  exact vU htb an r hr (zA _ _ _) (hq _)
 ·cases h
theorem aF4(htb:TabOK P tb)(r:Nat)(g:List Nat){fid:FuncId}{args:List AVal}{hin:List (Nat×Obj)}{y:Value}(u:Dies P fid args hin y){id:Nat}{ops:Array Oper}
  (h:N0 P tb ⟨[],[(r,oD u g)]⟩ n ops r σ=some (cP (r+1) 0 [(r,r,oc u)],y)) (hq:∀σ',Q (.panic [{ v:=y,recovered:=false }]) σ'):W P n Bw w0 (.region id ops false) σ Q:=W_x htb u _ r _ h hq
def slB:AVal→Option Bool
 | .p _ .bool b=>some b
 | _=>none
theorem yU{x:AVal}{b:Bool}(h:slB x=some b):∃β,x = .p β .bool b:=by
 unfold slB at h
 split at h
 ·rename_i β b'
  cases h
  exact⟨β,rfl⟩
 ·cases h
theorem aO{b:Bool}{α:Type}{u v:Option α}{r:α}{c:Operand}{x y:Code}(h:(if b=true then u else v)=some r)
  (h1:b=true→u=some r→W P n Bw w0 x σ Q) (h2:b=false→v=some r→W P n Bw w0 y σ Q) (hc:slB (ev σ.s c)=some b:=by kernel_rfl):W P n Bw w0 (.cond c x y) σ Q:=by
 obtain⟨β,e⟩:=yU hc
 exact X3 e (fun hb=>h1 hb (aGm hb h)) (fun hb=>h2 hb (aD6 hb h))
theorem F6{b:Bool}(hb:b=true){c:Operand}{x y:Code}(h1:W P n Bw w0 x σ Q)(hc:slB (ev σ.s c)=some b:=by kernel_rfl):W P n Bw w0 (.cond c x y) σ Q:=by
 obtain⟨β,e⟩:=yU hc
 exact X3 e (fun _=>h1) (fun h=>by rw[hb]at h;cases h)
theorem aCw{b:Bool}(hb:b=false){c:Operand}{x y:Code}(h1:W P n Bw w0 y σ Q)(hc:slB (ev σ.s c)=some b:=by kernel_rfl):W P n Bw w0 (.cond c x y) σ Q:=by
 obtain⟨β,e⟩:=yU hc
 exact X3 e (fun h=>by rw[hb]at h;cases h) (fun _=>h1)
theorem bT{α β:Type}{m:Option α}{k:α→Option β}{r:β}{c:Code}(h:m.bind k=some r)(f:α→St)
  (h1:∀v,m=some v→W P n Bw w0 c σ (rF n f v)) (h2:∀v,k v=some r→∀σ',Le n σ' (f v)→Q .normal σ'):W P n Bw w0 c σ Q:=by
 obtain⟨v,q1,q2⟩:=aG h
 refine(h1 v q1).mono fun e σ' hq=> ?_
 obtain⟨rfl,hl⟩:=hq
 exact h2 v q2 σ' hl
theorem aCb{α β:Type}{m:Option α}{k:α→Option β}{r:β}{c:Code}(h:m.bind k=some r)(F:α→Exit→St→Prop)
  (h1:∀v,m=some v→W P n Bw w0 c σ (F v)) (h2:∀v,k v=some r→∀e σ',F v e σ'→Q e σ'):W P n Bw w0 c σ Q:=by
 obtain⟨v,q1,q2⟩:=aG h
 exact(h1 v q1).mono (h2 v q2)
theorem kT{S T β:Type}{body:S→Option (S⊕T)}{k:T→Option β}{r:β}{c:Code}{x:S}(h:(iter body x).bind k=some r)(f:S→St)(F:T→Exit→St→Prop)(hl:Le n σ (f x))
  (step:∀y o,body y=some o→W P n Bw w0 c (f y) (nI n f F o)) (h2:∀v,k v=some r→∀e σ',F v e σ'→Q e σ'):W P n Bw w0 (.loop c) σ Q:=by
 obtain⟨v,q1,q2⟩:=aG h
 exact(aDX f F q1 hl step).mono (h2 v q2)
theorem dC{S T β:Type}{body:S→Option (S⊕T)}{k:T→Option β}{r:β}{c:Code}{x:S}(h:(iter body x).bind k=some r)(f:S→St)(j:Nat)(g:T→St)(hl:Le n σ (f x))
  (step:∀y o,body y=some o→W P n Bw w0 c (f y) (nI n f (eJ n j g) o)) (h2:∀v,k v=some r→∀σ',Le n σ' (g v)→Q (.exit j) σ'):W P n Bw w0 (.loop c) σ Q:=by
 refine kT h f (eJ n j g) hl step fun v hk e σ' hq=> ?_
 obtain⟨rfl,hl⟩:=hq
 exact h2 v hk σ' hl
theorem eN{S:Type}{f:S→St}{v a:S}(h:some a=some v)(hl:Le n σ1 (f a)):∀σ',Le n σ' σ1→rF n f v .normal σ':=by cases h;exact dI hl
theorem eB{S T:Type}{f:S→St}{F:T→Exit→St→Prop}{a:S}{r:S⊕T}(h:some (Sum.inl a)=some r)(hl:Le n σ1 (f a)):∀σ',Le n σ' σ1→nI n f F r .normal σ':=by cases h;exact aD5 hl
theorem eX{S T:Type}{f:S→St}{g:T→St}{a:T}{r:S⊕T}{j:Nat}(h:some (Sum.inr a)=some r)(hl:Le n σ1 (g a)):∀σ',Le n σ' σ1→nI n f (eJ n j g) r (.exit j) σ':=by cases h;exact dL (bZ hl)
end
end Go.Tv
