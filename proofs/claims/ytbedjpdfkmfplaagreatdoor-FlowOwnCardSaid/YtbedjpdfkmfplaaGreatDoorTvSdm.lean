/- Short forms for printed walks. -/
import Derived.Test.YtbedjpdfkmfplaaGreatDoorTvSam
import Derived.KernelRfl
import Derived.WalkKit
import Derived.Lib.TrailingZeros
import Derived.LoopN
namespace Go.Tv
open Go
theorem tt:True:=trivial
def Ts:Nat→List Prop→List Prop
 | 0,l=>l
 | n+1,l=>True::Ts n l
theorem tr:∀(n:Nat) {l:List Prop},u5 l→u5 (Ts n l)
 | 0,_,h=>h
 | n+1,_,h=>⟨trivial,tr n h⟩
theorem sI{α:Type}{a b:α}(h:some a=some b):a=b:=Option.some.inj h
theorem nl{a b:Nat}(h:Nat.ble a b=true):a≤b:=Nat.le_of_ble_eq_true h
def pO{p:Prop}(_:p):Prop:=p
section
variable{P:Program}{n:NS}{Bw:Nat→Prop}{w0:Base P}{σ:St}{Q:Exit→St→Prop}{tb:Tab}
theorem gl(gs:List G)(f:List Nat){l:List (Nat×AVal)}{m:List (Nat×Obj)}{nx pn:Nat}(h:(aBs gs f l m σ,(σ.pn == pn && o8 (fnL f) l m nx pn))=(some (sY f l m),true)):Le n σ (aM l m nx pn):=M6 (Prod.mk.inj h).1 (Prod.mk.inj h).2
end
end Go.Tv
namespace Go.Tv
open Go
structure PP where
 p:Prop
 h:p
def oc{p:Prop}(h:p):PP:=⟨p,h⟩
def cP:Nat→Nat→List (Nat×Nat×PP)→List Prop
 | 0,_,_=>[]
 | k+1,i,[]=>True::cP k (i+1) []
 | k+1,i,(j,e,c)::r=>match Nat.blt i j,Nat.blt i e with
  | true,_=>True::cP k (i+1) ((j,e,c)::r)
  | false,true=>c.p::cP k (i+1) ((j,e,c)::r)
  | false,false=>c.p::cP k (i+1) r
theorem T5:∀(k i:Nat) (l:List (Nat×Nat×PP)),u5 (cP k i l)
 | 0,_,_=>trivial
 | k+1,i,[]=>⟨trivial,T5 k (i+1) []⟩
 | k+1,i,(j,e,c)::r=>by
  unfold cP
  split
  ·exact⟨trivial,T5 k (i+1) _⟩
  ·exact⟨c.h,T5 k (i+1) _⟩
  ·exact⟨c.h,T5 k (i+1) _⟩
def an{p:Prop}(h:p):PP:=oc (And.intro h trivial)
def ct:List Bool:=List.replicate 40 true
def a0:An:=⟨[],[]⟩
section
variable{P:Program}{fid:FuncId}{args:List AVal}{hin:List (Nat×Obj)}
def oP{r:AVal}(_:Pure P fid args r)(fl:List Bool:=[])(cn:List Bool:=ct):Orc:=⟨r,fl,false,cn,[],[],none⟩
def oO{r:AVal}{hout:List (Nat×Obj)}(_:Owns P fid args hin r hout)(g:List Nat)(fl:List Bool:=[])(cn:List Bool:=ct):Orc:=⟨r,fl,true,cn,g,hout,none⟩
def oD{x:Value}(_:Dies P fid args hin x)(g:List Nat)(fl:List Bool:=[])(cn:List Bool:=ct):Orc:=⟨.unk,fl,true,cn,g,[],some x⟩
end
theorem gg{n:NS}{σ:St}(gs:List G)(f:List Nat){l:List (Nat×AVal)}{m:List (Nat×Obj)}{nx pn:Nat}(h:(aBs gs f l m σ,(σ.pn == pn && o8 (fnL f) l m nx pn))=(some (sY f l m),true):=by kernel_rfl):Le n σ (aM l m nx pn):=gl gs f h
theorem g2{α:Type}{p q:Prop}[Decidable p][Decidable q]{x:Option α}{r:α}(h:(if p then(if q then x else none)else none)=some r):p∧q∧x=some r:=⟨(aS h).1,aS (aS h).2⟩
theorem g3{α:Type}{p q s:Prop}[Decidable p][Decidable q][Decidable s]{x:Option α}{r:α}(h:(if p then(if q then(if s then x else none)else none)else none)=some r):p∧q∧s∧x=some r:=⟨(aS h).1,g2 (aS h).2⟩
theorem g4{α:Type}{p q s t:Prop}[Decidable p][Decidable q][Decidable s][Decidable t]{x:Option α}{r:α}(h:(if p then(if q then(if s then(if t then x else none)else none)else none)else none)=some r):p∧q∧s∧t∧x=some r:=⟨(aS h).1,g3 (aS h).2⟩
theorem aW{α:Type}{b:Bool}{x y:Option α}{r:α}(h:(if b=true then x else y)=some r):(b=true∧x=some r)∨(b=false∧y=some r):=by
 cases b with
 | true=>exact .inl ⟨rfl,h⟩
 | false=>exact .inr ⟨rfl,h⟩
section
variable{P:Program}{n:NS}{Bw:Nat→Prop}{w0:Base P}{σ σ1:St}{Q:Exit→St→Prop}{tb:Tab}
def jO(P:Program)(tb:Tab)(an:An)(n:NS)(ops:Array Oper)(σ:St):St :=
 match aGq P tb an n σ.nx ops ops.toList 0 σ.s σ.h with
 | some (s,h,_)=>⟨s,h,σ.nx+8*ops.size,σ.pn⟩
 | none=>σ
def jR(P:Program)(tb:Tab)(an:An)(n:NS)(ops:Array Oper)(σ:St):Option (List Prop) :=
 match aGq P tb an n σ.nx ops ops.toList 0 σ.s σ.h with
 | some (_,_,c)=>some c
 | none=>none
def aCY(P:Program)(tb:Tab)(an:An)(n:NS)(ops:Array Oper)(σ:St):St :=
 match aDf P tb an n σ.nx ops ops.toList 0 σ.s σ.h with
 | some (s,h,_,_)=>⟨s,h,σ.nx+8*ops.size,σ.pn⟩
 | none=>σ
def aDU(P:Program)(tb:Tab)(an:An)(n:NS)(ops:Array Oper)(σ:St):Option (List Prop) :=
 match aDf P tb an n σ.nx ops ops.toList 0 σ.s σ.h with
 | some (_,_,c,fw)=>match aGx ops (xW fw) (yI fw) (wQ ops) ops.size 0 (Array.replicate ops.size false)with
  | true=>some c
  | false=>none
 | none=>none
def aDc(P:Program)(tb:Tab)(an:An)(n:NS)(ops:Array Oper)(r:Nat)(σ:St):Option (List Prop×Value) :=
 match uY P tb an n σ.nx ops r ops.toList 0 σ.s σ.h with
 | some (_,_,c,y)=>some (c,y)
 | none=>none
theorem aA{d:Code}(h:W P n Bw w0 d σ1 Q):∀σ',Le n σ' σ1→aAW P n Bw w0 d Q .normal σ':=fun _ hl=>aJ1 hl h
def aFn(gs:List G)(σ:St):St :=
 match uE gs σ with
 | some σ'=>σ'
 | none=>σ
theorem pV(gs:List G){c:Code}(h:(uE gs σ).isSome=true)(hq:W P n Bw w0 c (aFn gs σ) Q):W P n Bw w0 c σ Q:=by
 unfold aFn at hq
 split at hq
 ·rename_i σ' e
  exact aJ1 (F6 e) hq
 ·rename_i e
  rw[e]at h
  cases h
theorem aG9(htb:TabOK P tb)(an:An){id:Nat}{ops:Array Oper}(cs:List (Nat×Nat×PP))
  (h:jR P tb an n ops σ=some (cP ops.size 0 cs)) (hq:∀σ',Le n σ' (jO P tb an n ops σ)→Q .normal σ'):W P n Bw w0 (.region id ops false) σ Q:=by
 unfold jR at h
 unfold jO at hq
 split at h
 ·rename_i s hh c hr
  cases h
  rw[hr]at hq
  exact aDr htb an hr (T5 _ _ _) (hq _ (Le.refl _))
 ·cases h
theorem W_g(htb:TabOK P tb)(an:An){id:Nat}{ops:Array Oper}{d:Code}(cs:List (Nat×Nat×PP))
  (h:jR P tb an n ops σ=some (cP ops.size 0 cs)) (hq:W P n Bw w0 d (jO P tb an n ops σ) Q):W P n Bw w0 (.seq (.region id ops false) d) σ Q :=
 aC (aG9 htb an cs h (aA hq))
theorem aKE(htb:TabOK P tb)(hm:P.follows .mixedOrders=true)(an:An){id:Nat}{ops:Array Oper}(cs:List (Nat×Nat×PP))
  (h:aDU P tb an n ops σ=some (cP ops.size 0 cs)) (hq:∀σ',Le n σ' (aCY P tb an n ops σ)→Q .normal σ'):W P n Bw w0 (.region id ops true) σ Q:=by
 unfold aDU at h
 unfold aCY at hq
 split at h
 ·rename_i s hh c fw hr
  split at h
  ·rename_i hx
   cases h
   rw[hr]at hq
   exact aJG htb hm an hr hx (T5 _ _ _) (hq _ (Le.refl _))
  ·cases h
 ·cases h
theorem W_d(htb:TabOK P tb)(hm:P.follows .mixedOrders=true)(an:An){id:Nat}{ops:Array Oper}{d:Code}(cs:List (Nat×Nat×PP))
  (h:aDU P tb an n ops σ=some (cP ops.size 0 cs)) (hq:W P n Bw w0 d (aCY P tb an n ops σ) Q):W P n Bw w0 (.seq (.region id ops true) d) σ Q :=
 aC (aKE htb hm an cs h (aA hq))
def cG:Nat→Nat→Prop→List Prop
 | 0,_,_=>[]
 | k+1,0,p=>p::Ts k []
 | k+1,i+1,p=>True::cG k i p
theorem aI9:∀(k i:Nat) {p:Prop},p→u5 (cG k i p)
 | 0,_,_,_=>trivial
 | k+1,0,_,h=>⟨h,tr k trivial⟩
 | k+1,i+1,_,h=>⟨trivial,aI9 k i h⟩
theorem aI5(htb:TabOK P tb)(i:Nat){α:Type}{p:Prop}[Decidable p]{u:Option α}{r:α}(h:(if p then u else none)=some r){id:Nat}{ops:Array Oper}
  (hk:jR P tb a0 n ops σ=some (cG ops.size i p)) (hq:u=some r→∀σ',Le n σ' (jO P tb a0 n ops σ)→Q .normal σ'):W P n Bw w0 (.region id ops false) σ Q:=by
 obtain⟨hp,hu⟩:=aS h
 replace hq:=hq hu
 unfold jR at hk
 unfold jO at hq
 split at hk
 ·rename_i s hh c hr
  cases hk
  rw[hr]at hq
  exact aDr htb a0 hr (aI9 _ _ hp) (hq _ (Le.refl _))
 ·cases hk
theorem aLp(htb:TabOK P tb)(i:Nat){α:Type}{p:Prop}[Decidable p]{u:Option α}{r:α}(h:(if p then u else none)=some r){id:Nat}{ops:Array Oper}{d:Code}
  (hk:jR P tb a0 n ops σ=some (cG ops.size i p)) (hq:u=some r→W P n Bw w0 d (jO P tb a0 n ops σ) Q):W P n Bw w0 (.seq (.region id ops false) d) σ Q :=
 aC (aI5 htb i h hk fun hu=>aA (hq hu))
theorem aKJ(htb:TabOK P tb)(i:Nat){fid:FuncId}{args:List AVal}{r:AVal}(u:Pure P fid args r){id:Nat}{ops:Array Oper}
  (h:jR P tb ⟨[],[(i,oP u)]⟩ n ops σ=some (cP ops.size 0 [(i,i,oc u)])) (hq:∀σ',Le n σ' (jO P tb ⟨[],[(i,oP u)]⟩ n ops σ)→Q .normal σ'):W P n Bw w0 (.region id ops false) σ Q:=aG9 htb _ _ h hq
theorem aLu(htb:TabOK P tb)(i:Nat){fid:FuncId}{args:List AVal}{r:AVal}(u:Pure P fid args r){id:Nat}{ops:Array Oper}{d:Code}
  (h:jR P tb ⟨[],[(i,oP u)]⟩ n ops σ=some (cP ops.size 0 [(i,i,oc u)])) (hq:W P n Bw w0 d (jO P tb ⟨[],[(i,oP u)]⟩ n ops σ) Q):W P n Bw w0 (.seq (.region id ops false) d) σ Q:=W_g htb _ _ h hq
theorem aKL(htb:TabOK P tb)(i:Nat)(g:List Nat){fid:FuncId}{args:List AVal}{hin hout:List (Nat×Obj)}{r:AVal}(u:Owns P fid args hin r hout){id:Nat}{ops:Array Oper}
  (h:jR P tb ⟨[],[(i,oO u g)]⟩ n ops σ=some (cP ops.size 0 [(i,i,oc u)])) (hq:∀σ',Le n σ' (jO P tb ⟨[],[(i,oO u g)]⟩ n ops σ)→Q .normal σ'):W P n Bw w0 (.region id ops false) σ Q:=aG9 htb _ _ h hq
theorem aLI(htb:TabOK P tb)(i:Nat)(g:List Nat){fid:FuncId}{args:List AVal}{hin hout:List (Nat×Obj)}{r:AVal}(u:Owns P fid args hin r hout){id:Nat}{ops:Array Oper}{d:Code}
  (h:jR P tb ⟨[],[(i,oO u g)]⟩ n ops σ=some (cP ops.size 0 [(i,i,oc u)])) (hq:W P n Bw w0 d (jO P tb ⟨[],[(i,oO u g)]⟩ n ops σ) Q):W P n Bw w0 (.seq (.region id ops false) d) σ Q:=W_g htb _ _ h hq
theorem W_x(htb:TabOK P tb){fid:FuncId}{args:List AVal}{hin:List (Nat×Obj)}{y:Value}(_:Dies P fid args hin y)(an:An)(r:Nat){id:Nat}{ops:Array Oper}(cs:List (Nat×Nat×PP))
  (h:aDc P tb an n ops r σ=some (cP (r+1) 0 cs,y)) (hq:∀σ',Q (.panic [{ v:=y,recovered:=false }]) σ'):W P n Bw w0 (.region id ops false) σ Q:=by
 unfold aDc at h
 split at h
 ·rename_i s hh c y' hr
  cases h
  exact J7 htb an r hr (T5 _ _ _) (hq _)
 ·cases h
theorem aLS(htb:TabOK P tb)(r:Nat)(g:List Nat){fid:FuncId}{args:List AVal}{hin:List (Nat×Obj)}{y:Value}(u:Dies P fid args hin y){id:Nat}{ops:Array Oper}
  (h:aDc P tb ⟨[],[(r,oD u g)]⟩ n ops r σ=some (cP (r+1) 0 [(r,r,oc u)],y)) (hq:∀σ',Q (.panic [{ v:=y,recovered:=false }]) σ'):W P n Bw w0 (.region id ops false) σ Q:=W_x htb u _ r _ h hq
def slB:AVal→Option Bool
 | .p _ .bool b=>some b
 | _=>none
theorem S9{x:AVal}{b:Bool}(h:slB x=some b):∃β,x = .p β .bool b:=by
 unfold slB at h
 split at h
 ·rename_i β b'
  cases h
  exact⟨β,rfl⟩
 ·cases h
theorem aO{b:Bool}{α:Type}{u v:Option α}{r:α}{c:Operand}{x y:Code}(h:(if b=true then u else v)=some r)
  (h1:b=true→u=some r→W P n Bw w0 x σ Q) (h2:b=false→v=some r→W P n Bw w0 y σ Q) (hc:slB (ev σ.s c)=some b:=by kernel_rfl):W P n Bw w0 (.cond c x y) σ Q:=by
 obtain⟨β,e⟩:=S9 hc
 exact aEM e (fun hb=>h1 hb (aLg hb h)) (fun hb=>h2 hb (aJz hb h))
theorem sX{b:Bool}(hb:b=true){c:Operand}{x y:Code}(h1:W P n Bw w0 x σ Q)(hc:slB (ev σ.s c)=some b:=by kernel_rfl):W P n Bw w0 (.cond c x y) σ Q:=by
 obtain⟨β,e⟩:=S9 hc
 exact aEM e (fun _=>h1) (fun h=>by rw[hb]at h;cases h)
theorem P4{b:Bool}(hb:b=false){c:Operand}{x y:Code}(h1:W P n Bw w0 y σ Q)(hc:slB (ev σ.s c)=some b:=by kernel_rfl):W P n Bw w0 (.cond c x y) σ Q:=by
 obtain⟨β,e⟩:=S9 hc
 exact aEM e (fun h=>by rw[hb]at h;cases h) (fun _=>h1)
theorem bO{α β:Type}{m:Option α}{k:α→Option β}{r:β}{c:Code}(h:m.bind k=some r)(f:α→St)
  (h1:∀v,m=some v→W P n Bw w0 c σ (sT n f v)) (h2:∀v,k v=some r→∀σ',Le n σ' (f v)→Q .normal σ'):W P n Bw w0 c σ Q:=by
 obtain⟨v,q1,q2⟩:=aG h
 refine(h1 v q1).mono fun e σ' hq=> ?_
 obtain⟨rfl,hl⟩:=hq
 exact h2 v q2 σ' hl
theorem aEl{α β:Type}{m:Option α}{k:α→Option β}{r:β}{c:Code}(h:m.bind k=some r)(F:α→Exit→St→Prop)
  (h1:∀v,m=some v→W P n Bw w0 c σ (F v)) (h2:∀v,k v=some r→∀e σ',F v e σ'→Q e σ'):W P n Bw w0 c σ Q:=by
 obtain⟨v,q1,q2⟩:=aG h
 exact(h1 v q1).mono (h2 v q2)
theorem mG{S T β:Type}{body:S→Option (S⊕T)}{k:T→Option β}{r:β}{c:Code}{x:S}(h:(iter body x).bind k=some r)(f:S→St)(F:T→Exit→St→Prop)(hl:Le n σ (f x))
  (step:∀y o,body y=some o→W P n Bw w0 c (f y) (sD n f F o)) (h2:∀v,k v=some r→∀e σ',F v e σ'→Q e σ'):W P n Bw w0 (.loop c) σ Q:=by
 obtain⟨v,q1,q2⟩:=aG h
 exact(aJt f F q1 hl step).mono (h2 v q2)
theorem cW{S T β:Type}{body:S→Option (S⊕T)}{k:T→Option β}{r:β}{c:Code}{x:S}(h:(iter body x).bind k=some r)(f:S→St)(j:Nat)(g:T→St)(hl:Le n σ (f x))
  (step:∀y o,body y=some o→W P n Bw w0 c (f y) (sD n f (fV n j g) o)) (h2:∀v,k v=some r→∀σ',Le n σ' (g v)→Q (.exit j) σ'):W P n Bw w0 (.loop c) σ Q:=by
 refine mG h f (fV n j g) hl step fun v hk e σ' hq=> ?_
 obtain⟨rfl,hl⟩:=hq
 exact h2 v hk σ' hl
theorem eN{S:Type}{f:S→St}{v a:S}(h:some a=some v)(hl:Le n σ1 (f a)):∀σ',Le n σ' σ1→sT n f v .normal σ':=by cases h;exact dI hl
theorem eB{S T:Type}{f:S→St}{F:T→Exit→St→Prop}{a:S}{r:S⊕T}(h:some (Sum.inl a)=some r)(hl:Le n σ1 (f a)):∀σ',Le n σ' σ1→sD n f F r .normal σ':=by cases h;exact aJS hl
theorem eX{S T:Type}{f:S→St}{g:T→St}{a:T}{r:S⊕T}{j:Nat}(h:some (Sum.inr a)=some r)(hl:Le n σ1 (g a)):∀σ',Le n σ' σ1→sD n f (fV n j g) r (.exit j) σ':=by cases h;exact eR (b8 hl)
end
end Go.Tv
namespace Go.Tv
open Go Go.RowKit
def wN(x:Int):Int:=if x == 0 then 32 else deB.getD (bits BinOp.and IntKind.u32 x (-x % 4294967296)*125613361 % 4294967296 / 134217728).toNat 0
theorem aHA(y:Int):(y % 4294967296 / 134217728).toNat<32:=by omega
theorem aGY:∀i,i<32→wrap64 (deB.getD i 0)=deB.getD i 0:=by decide +kernel
theorem aHe{x:Int}(h:(x == 0)=false):wrap64 (deB.getD (bits BinOp.and IntKind.u32 x (-x % 4294967296)*125613361 % 4294967296 / 134217728).toNat 0)=wN x:=by
 rw[aGY _ (aHA _)]
 simp only[wN,h,Bool.false_eq_true,if_false]
theorem aFR{x:Int}(h:(x == 0)=true):wN x=32:=by simp only[wN,h,if_true]
theorem Pure.of_tz{P:Program}{f:FuncId}{fn:Func}(hf:P.funcs[f]? = some fn)(hname:(fn.name == "runtime.NumGoroutine")=false)(hb:fn.body.isNone=false){β:Bool}{x:Int}
  (h:∀w,K4 P w→Calls P f #[.int .u32 x] w fun e w'=>e = .returned (.int .i64 (wN x))∧w'=w):Pure P f [.p β (.int .u32) x] (.p false (.int .i64) (wN x)):=by
 refine⟨⟨fn,hf,hname,hb⟩,fun Bw w us hld hbw hargs=> ?_⟩
 match hus:us.toList,hargs with
 | [v0],hargs =>
  have e1:=cN hargs.1
  subst e1
  have:us = #[.int .u32 x]:=Array.ext' hus
  subst this
  refine(h w hld).mono fun r w' ⟨h1,h2⟩=>⟨_,h1,by subst h2;exact(Kept.refl (nH hld)).below,eQ _ _ _⟩
end Go.Tv
namespace Go.Tv
open Go
def zOf(P:Program)(t:TypeId):Option (List AVal):=((P.info? t).bind (·.zero)).map fun z=>z.cells.toList.map pI
def hiB(P:Program)(t:TypeId)(sz by_:Nat):Bool :=
 match P.info? t with
 | some i=>match i.zero with
  | some z=>i.size == sz && i.bytes == by_ && z.cells.size == sz && z.cells.toList.all (·.oneCell')
  | none=>false
 | none=>false
theorem aKQ{P:Program}{t:TypeId}{ti:TI}(h1:zOf P t=some ti.z)(h2:hiB P t ti.size ti.bytes=true):
  ∃i z,P.info? t=some i∧i.zero=some z∧i.size=ti.size∧i.bytes=ti.bytes∧z.cells.toList.map pI=ti.z∧z.cells.size=ti.size∧∀c∈z.cells.toList,c.oneCell'=true:=by
 unfold hiB at h2
 split at h2
 ·rename_i i hi
  split at h2
  ·rename_i z hz
   simp only[Bool.and_eq_true,beq_iff_eq,List.all_eq_true]at h2
   obtain⟨⟨⟨a,b⟩,c⟩,d⟩:=h2
   unfold zOf at h1
   rw[hi]at h1
   simp only[Option.bind,hz,Option.map,Option.some.injEq]at h1
   exact⟨i,z,hi,hz,a,b,h1,c,d⟩
  ·cases h2
 ·cases h2
section
variable{P:Program}{n:NS}{Bw:Nat→Prop}{w0:Base P}{σ:St}{Q:Exit→St→Prop}{tb:Tab}
theorem aBZ(d:Nat){w:World}{t el:TypeId}(h:P.underlying t=some (.slice el))(ad:Option Addr)(l c:Nat):(Op.equalIn (d+1) t (.slice ad l c) (.slice none 0 0)).run P w = .ok ad.isNone w:=by
 cases ad <;> simp[Op.equalIn,run_underlying h]
def rQ(P:Program)(n:NS)(Bw:Nat→Prop)(w0:Base P)(c:Code)(Q:Exit→St→Prop):Nat→Exit→St→Prop
 | 0,.normal,_=>False
 | k+1,.normal,σ=>W P n Bw w0 c σ (rQ P n Bw w0 c Q k)
 | _,e,σ=>Q e σ
theorem M9{c:Code}{k:Nat}{e:Exit}(he:e ≠ .normal):rQ P n Bw w0 c Q k e σ=Q e σ:=by
 cases e <;> first | exact absurd rfl he | (cases k <;> rfl)
theorem X1(k:Nat){c:Code}(h:W P n Bw w0 c σ (rQ P n Bw w0 c Q k)):W P n Bw w0 (.loop c) σ Q:=fun a w hr=>by
 refine wp_loop_rounds (k+1) ?_
 have key:∀k σ,W P n Bw w0 c σ (rQ P n Bw w0 c Q k)→∀a w,R n Bw w0 σ a w→Code.rounds P c (fun e a' w'=>∃σ',R n Bw w0 σ' a' w'∧Q e σ') (k+1) a w:=by
  intro k
  induction k with
  | zero =>
   intro σ h a w hr
   refine wp_mono (h a w hr) fun e a' w' ⟨σ',h1,h2⟩=> ?_
   cases e with
   | normal=>exact h2.elim
   | _=>exact⟨σ',h1,by rw[M9 (by simp)]at h2;exact h2⟩
  | succ k ih =>
   intro σ h a w hr
   refine wp_mono (h a w hr) fun e a' w' ⟨σ',h1,h2⟩=> ?_
   cases e with
   | normal=>exact ih σ' h2 a' w' h1
   | _=>exact⟨σ',h1,by rw[M9 (by simp)]at h2;exact h2⟩
 exact key k σ h a w hr
theorem zP{c:Code}{k:Nat}{σ1:St}(h:W P n Bw w0 c σ1 (rQ P n Bw w0 c Q k)):∀σ',Le n σ' σ1→rQ P n Bw w0 c Q (k+1) .normal σ':=fun _ hl=>aJ1 hl h
theorem rQE{c:Code}{k j:Nat}{σ1:St}(h:∀σ',Le n σ' σ1→Q (.exit j) σ'):∀σ',Le n σ' σ1→rQ P n Bw w0 c Q k (.exit j) σ':=fun σ' hl=>by rw[M9 (by simp)];exact h σ' hl
theorem aEr{c:Code}{k:Nat}(h:Q .ret σ):rQ P n Bw w0 c Q k .ret σ:=by rw[M9 (by simp)];exact h
theorem aEG(htb:TabOK P tb){id:Nat}{ops:Array Oper}{o0 o1:Oper}{d e:Nat}{t t2 el:TypeId}{β:Bool}{A:Ty}{xs:List A.den}{c:Code}
  (h0:ops = #[o0,o1]) (hd:o0.dst=some d) (he:o1.dst=some e) (ho:o1.op = .binOp .eql t (.tmp d) (.const (.slice none 0 0)) t2) (hg:o1.guard=none) (hde:R5 n (some e)=true)
  (hs0:tH P tb a0 n σ.nx ops 0 o0 σ.s σ.h=some (.p β (.slice A) xs,[],True)) (hu:P.underlying t=some (.slice el))
  (hq:∀b,(b=true→xs=[])→W P n Bw w0 c ⟨eJ (eJ σ.s (some d) (.p β (.slice A) xs)) (some e) (.p false .bool b),σ.h,σ.nx+16,σ.pn⟩ Q):W P n Bw w0 (.seq (.region id ops false) c) σ Q:=by
 refine aC fun a w hR=> ?_
 obtain⟨ρ,φ,q1,q2,q3⟩:=hR.ex
 refine wp_region ?_
 rw[show ops.size=2 by rw[h0];rfl,show List.range 2=[0,1]from rfl]
 rw[wpOps_cons]
 refine lK (done:=fun j=>j<0) htb ⟨ρ,φ,q1,q2,fun id u hu=> .inl (q3 id u hu)⟩ (by rw[h0];rfl) (Nat.lt_irrefl 0) hs0 trivial fun a1 w1 hm=> ?_
 rw[wpOps_cons]
 obtain⟨ρ1,φ1,r1,r2,r3⟩:=hm.ex
 have hv:=r2.sl d
 rw[hd,eJ,aI]at hv
 simp only[V,Vcells]at hv
 obtain⟨-,ad,l,cp,hval,⟨hl,-⟩,hxs⟩:=hv
 have hb:ad.isNone=true→xs=[]:=fun hn=>by
  cases xs with
  | nil=>rfl
  | cons y ys =>
   obtain⟨b,e,-⟩:=hxs 0 (by simp)
   rw[e]at hn
   cases hn
 unfold wpOp
 rw[h0]
 simp only[List.getElem?_toArray,List.getElem?_cons_succ,List.getElem?_cons_zero]
 rw[if_pos (by unfold Region.wanted;rw[hg])]
 refine .inl ?_
 refine Good.of_run (post:=fun v w'=>v = .bool ad.isNone∧w'=w1) (v:= .bool ad.isNone) (w':=w1) ?_ ⟨rfl,rfl⟩ _ _ ?_
 ·simp only[execOp,ho,Act.eval,←hval]
  rw[Sem.run_bind,Sem.run_bind,b7 (by intro cs e;cases e) (by intro e;cases e),Result.andThen_ok]
  rw[show binOp .eql t (.slice ad l cp) (.slice none 0 0)=(do pure (.bool (←Op.equal t (.slice ad l cp) (.slice none 0 0)))) by cases ad <;> rfl]
  simp only[Op.equal,Op.maxDepth,Sem.run_bind,aBZ 9999 hu,Result.andThen_ok]
  rfl
 ·rintro v w' ⟨rfl,rfl⟩
  refine⟨⟨eJ (eJ σ.s (some d) (.p β (.slice A) xs)) (some e) (.p false .bool ad.isNone),σ.h,σ.nx+16,σ.pn⟩,⟨⟨ρ1,φ1,r1,?_,fun id u hu=> ?_⟩,hR.pn⟩,hq _ hb⟩
  ·have:=r2.putD (x:= .p false .bool ad.isNone) (kF false ad.isNone) hde
   rw[hd]at this
   rw[he]
   exact this
  ·rcases r3 id u hu with h1 | ⟨i,j,h1,h2,h3⟩ <;> simp only <;> omega
end
end Go.Tv
namespace Go.Tv
open Go
def S2(a:Option Nat):Option Nat:=a.map fun n=>n % 9223372036854775808
theorem aIr(b:Nat):eK (b % 9223372036854775808)=S2 (eK b):=by
 have hs:FloatKind.f64.format.signWeight=9223372036854775808:=rfl
 have e:(FloatKind.f64.decode (b % 9223372036854775808)).isNaN=(FloatKind.f64.decode b).isNaN:=by
  unfold FloatKind.decode Ieee.Format.read
  rw[hs]
  simp only[Nat.mod_mod]
  split
  ·rfl
  ·split
   ·rfl
   ·split <;> rfl
 unfold eK S2
 rw[e]
 split <;> rfl
theorem aGW(b:Nat):aT .andNot .u64 (b:Int) 9223372036854775808=((b % 9223372036854775808:Nat):Int):=by
 have h1:BitVec.ofInt 64 (b:Int)=BitVec.ofNat 64 b:=BitVec.ofInt_natCast ..
 have h2 : ~~~(BitVec.ofInt 64 9223372036854775808)=BitVec.ofNat 64 (2 ^ 63 - 1):=by decide
 have h3:(BitVec.ofNat 64 b &&& BitVec.ofNat 64 (2 ^ 63 - 1)).toNat=b % 9223372036854775808:=by
  rw[BitVec.toNat_and,BitVec.toNat_ofNat,BitVec.toNat_ofNat,Nat.mod_eq_of_lt (show 2 ^ 63 - 1<2 ^ 64 by decide),Nat.and_two_pow_sub_one_eq_mod]
  omega
 unfold aT
 show IntKind.u64.wrap ((BitVec.ofInt 64 (b:Int) &&& ~~~(BitVec.ofInt 64 9223372036854775808)).toNat:Int)=_
 rw[h1,h2,h3]
 have:=Nat.mod_lt b (show 0<9223372036854775808 by decide)
 generalize b % 9223372036854775808=r at this
 simp only[IntKind.wrap,IntKind.min,IntKind.max,IntKind.bits,IntKind.signed]
 first | omega | (simp;omega)
theorem aIa(b:Nat):(bits BinOp.andNot IntKind.u64 (b:Int) 9223372036854775808).toNat=b % 9223372036854775808:=by
 rw[show bits BinOp.andNot IntKind.u64 (b:Int) 9223372036854775808=aT .andNot .u64 (b:Int) 9223372036854775808 from rfl,aGW,Int.toNat_natCast]
theorem Pure.of_abs{P:Program}{f:FuncId}{fn:Func}(hf:P.funcs[f]? = some fn)(hname:(fn.name == "runtime.NumGoroutine")=false)(hb:fn.body.isNone=false){β:Bool}{a:Option Nat}
  (h:∀(b:Nat) w,Calls P f #[.float .f64 b] w fun e w'=>e = .returned (.float .f64 (b % 9223372036854775808))∧w'=w):Pure P f [.p β .flt a] (.p false .flt (S2 a)):=by
 refine⟨⟨fn,hf,hname,hb⟩,fun Bw w us hld hbw hargs=> ?_⟩
 match hus:us.toList,hargs with
 | [v0],hargs =>
  have e1:=hargs.1
  simp only[V,Vcells]at e1
  obtain⟨-,m,e1,e2⟩:=e1
  subst e1 e2
  have:us = #[.float .f64 m]:=Array.ext' hus
  subst this
  refine(h m w).mono fun r w' ⟨h1,h2⟩=>⟨_,h1,by subst h2;exact(Kept.refl (nH hld)).below,?_⟩
  simp only[V,Vcells]
  exact⟨rfl,_,rfl,aIr m⟩
end Go.Tv
