/- Short forms for printed walks. -/
import Derived.Test.YtmcemnfjddoejaaGreatDoorTvSam
import Derived.KernelRfl
import Derived.WalkKit
import Derived.Lib.TrailingZeros
import Derived.LoopN
namespace Go.Tv
open Go
open Go.IntKind (u32 u64)
theorem tt:True:=trivial
def Ts:Nat→List Prop→List Prop
 | 0,l=>l
 | n+1,l=>True::Ts n l
theorem tr:∀(n:Nat) {l:List Prop},oQ l→oQ (Ts n l)
 | 0,_,h=>h
 | n+1,_,h=>⟨trivial,tr n h⟩
theorem sI{α:Type}{a b:α}(h:some a=some b):a=b:=Option.some.inj h
theorem nl{a b:Nat}(h:Nat.ble a b=true):a≤b:=Nat.le_of_ble_eq_true h
def pO{p:Prop}(_:p):Prop:=p
section
variable{P:Program}{n:NS}{Bw:Nat→Prop}{w0:b9 P}{σ:St}{Q:Exit→St→Prop}{tb:bR}
theorem gl(c:List G)(f:List Nat){l:List (Nat×ag)}{m:List (Nat×Obj)}{nx pn:Nat}(h:(goal c f l m σ,(σ.pn == pn && kA (Gt f) l m nx pn))=(some (want f l m),true)):Le n σ (ay l m nx pn):=vC (Prod.mk.inj h).1 (Prod.mk.inj h).2
end
end Go.Tv
namespace Go.Tv
open Go
open Go.IntKind (u32 u64)
structure PP where
 p:Prop
 h:p
def oc{p:Prop}(h:p):PP:=⟨p,h⟩
def cP:Nat→Nat→List (Nat×Nat×PP)→List Prop
 | 0,_,_=>[]
 | k+1,i,[]=>True::cP k (i+1) []
 | k+1,i,(j,e,c)::r=>match Nat.blt i j,Nat.blt i e with
  | true,_=>True::cP k (i+1) ((j,e,c)::r)
  | false,true=>c.p::cP k (i+1) ((j,e,c)::r)
  | false,false=>c.p::cP k (i+1) r
theorem wP:∀(k i:Nat) (l:List (Nat×Nat×PP)),oQ (cP k i l)
 | 0,_,_=>trivial
 | k+1,i,[]=>⟨trivial,wP k (i+1) []⟩
 | k+1,i,(j,e,c)::r=>by
  unfold cP;split
  ·exact⟨trivial,wP k (i+1) _⟩
  ·exact⟨c.h,wP k (i+1) _⟩
  ·exact⟨c.h,wP k (i+1) _⟩
def an{p:Prop}(h:p):PP:=oc (And.intro h trivial)
def ct:List Bool:=List.replicate 40 true
def a0:An:=⟨[],[]⟩
section
variable{P:Program}{fid:FuncId}{args:List ag}{hin:List (Nat×Obj)}
def oP{r:ag}(_:Pure P fid args r)(fl:List Bool:=[])(cn:List Bool:=ct):wo:=⟨r,fl,false,cn,[],[],none⟩
def oO{r:ag}{hout:List (Nat×Obj)}(_:ff P fid args hin r hout)(g:List Nat)(fl:List Bool:=[])(cn:List Bool:=ct):wo:=⟨r,fl,true,cn,g,hout,none⟩
def oD{x:Value}(_:jP P fid args hin x)(g:List Nat)(fl:List Bool:=[])(cn:List Bool:=ct):wo:=⟨.unk,fl,true,cn,g,[],some x⟩
end
theorem gg{n:NS}{σ:St}(c:List G)(f:List Nat){l:List (Nat×ag)}{m:List (Nat×Obj)}{nx pn:Nat}(h:(goal c f l m σ,(σ.pn == pn && kA (Gt f) l m nx pn))=(some (want f l m),true):=by kernel_rfl):Le n σ (ay l m nx pn):=gl c f h
theorem g2{α:Type}{p q:Prop}[Decidable p][Decidable q]{x:Option α}{r:α}(h:(if p then(if q then x else none)else none)=some r):p∧q∧x=some r:=⟨(aD h).1,aD (aD h).2⟩
theorem g3{α:Type}{p q s:Prop}[Decidable p][Decidable q][Decidable s]{x:Option α}{r:α}(h:(if p then(if q then(if s then x else none)else none)else none)=some r):p∧q∧s∧x=some r:=⟨(aD h).1,g2 (aD h).2⟩
theorem g4{α:Type}{p q s t:Prop}[Decidable p][Decidable q][Decidable s][Decidable t]{x:Option α}{r:α}(h:(if p then(if q then(if s then(if t then x else none)else none)else none)else none)=some r):p∧q∧s∧t∧x=some r:=⟨(aD h).1,g3 (aD h).2⟩
theorem aF{α:Type}{b:Bool}{x y:Option α}{r:α}(h:(if b=true then x else y)=some r):(b=true∧x=some r)∨(b=false∧y=some r):=by
 cases b with
 | true=>exact .inl ⟨rfl,h⟩
 | false=>exact .inr ⟨rfl,h⟩
section
variable{P:Program}{n:NS}{Bw:Nat→Prop}{w0:b9 P}{σ σ1:St}{Q:Exit→St→Prop}{tb:bR}
def ir(P:Program)(tb:bR)(an:An)(n:NS)(ops:Array Oper)(σ:St):St :=
 match E6 P tb an n σ.nx ops ops.toList 0 σ.s σ.h with
 | some (s,h,_)=>⟨s,h,σ.nx+8*ops.size,σ.pn⟩
 | none=>σ
def iz(P:Program)(tb:bR)(an:An)(n:NS)(ops:Array Oper)(σ:St):Option (List Prop) :=
 match E6 P tb an n σ.nx ops ops.toList 0 σ.s σ.h with
 | some (_,_,c)=>some c
 | none=>none
def Bx(P:Program)(tb:bR)(an:An)(n:NS)(ops:Array Oper)(σ:St):St :=
 match Bp P tb an n σ.nx ops ops.toList 0 σ.s σ.h with
 | some (s,h,_,_)=>⟨s,h,σ.nx+8*ops.size,σ.pn⟩
 | none=>σ
def Cw(P:Program)(tb:bR)(an:An)(n:NS)(ops:Array Oper)(σ:St):Option (List Prop) :=
 match Bp P tb an n σ.nx ops ops.toList 0 σ.s σ.h with
 | some (_,_,c,e)=>match Fg ops (qQ e) (qI e) (p9 ops) ops.size 0 (Array.replicate ops.size false)with
  | true=>some c
  | false=>none
 | none=>none
def Bq(P:Program)(tb:bR)(an:An)(n:NS)(ops:Array Oper)(r:Nat)(σ:St):Option (List Prop×Value) :=
 match oV P tb an n σ.nx ops r ops.toList 0 σ.s σ.h with
 | some (_,_,c,y)=>some (c,y)
 | none=>none
theorem ab{d:Code}(h:W P n Bw w0 d σ1 Q):∀σ',Le n σ' σ1→zx P n Bw w0 d Q .normal σ':=fun _ hl=>JV hl h
def EM(c:List G)(σ:St):St :=
 match pJ c σ with
 | some σ'=>σ'
 | none=>σ
theorem nA(j:List G){c:Code}(h:(pJ j σ).isSome=true)(f:W P n Bw w0 c (EM j σ) Q):W P n Bw w0 c σ Q:=by
 unfold EM at f;split at f
 ·rename_i σ' e;exact JV (uc e) f
 ·rename_i e;rw[e]at h;cases h
theorem GR(e:bS P tb)(an:An){id:Nat}{ops:Array Oper}(k:List (Nat×Nat×PP))
  (h:iz P tb an n ops σ=some (cP ops.size 0 k)) (f:∀σ',Le n σ' (ir P tb an n ops σ)→Q .normal σ'):W P n Bw w0 (.region id ops false) σ Q:=by
 unfold iz at h;unfold ir at f;split at h
 ·rename_i s m c j;cases h;rw[j]at f;exact Ca e an j (wP _ _ _) (f _ (Le.refl _))
 ·cases h
theorem Lv(c:bS P tb)(an:An){id:Nat}{ops:Array Oper}{d:Code}(e:List (Nat×Nat×PP))
  (h:iz P tb an n ops σ=some (cP ops.size 0 e)) (f:W P n Bw w0 d (ir P tb an n ops σ) Q):W P n Bw w0 (.seq (.region id ops false) d) σ Q :=
 af (GR c an e h (ab f))
theorem KD(e:bS P tb)(k:P.follows .mixedOrders=true)(an:An){id:Nat}{ops:Array Oper}(m:List (Nat×Nat×PP))
  (h:Cw P tb an n ops σ=some (cP ops.size 0 m)) (f:∀σ',Le n σ' (Bx P tb an n ops σ)→Q .normal σ'):W P n Bw w0 (.region id ops true) σ Q:=by
 unfold Cw at h;unfold Bx at f;split at h
 ·rename_i s q c u j;split at h
  ·rename_i p;cases h;rw[j]at f;exact JG e k an j p (wP _ _ _) (f _ (Le.refl _))
  ·cases h
 ·cases h
theorem MC(c:bS P tb)(f:P.follows .mixedOrders=true)(an:An){id:Nat}{ops:Array Oper}{d:Code}(e:List (Nat×Nat×PP))
  (h:Cw P tb an n ops σ=some (cP ops.size 0 e)) (j:W P n Bw w0 d (Bx P tb an n ops σ) Q):W P n Bw w0 (.seq (.region id ops true) d) σ Q :=
 af (KD c f an e h (ab j))
def cG:Nat→Nat→Prop→List Prop
 | 0,_,_=>[]
 | k+1,0,p=>p::Ts k []
 | k+1,i+1,p=>True::cG k i p
theorem Ja:∀(k i:Nat) {p:Prop},p→oQ (cG k i p)
 | 0,_,_,_=>trivial
 | k+1,0,_,h=>⟨h,tr k trivial⟩
 | k+1,i+1,_,h=>⟨trivial,Ja k i h⟩
theorem Jd(j:bS P tb)(i:Nat){α:Type}{p:Prop}[Decidable p]{u:Option α}{r:α}(h:(if p then u else none)=some r){id:Nat}{ops:Array Oper}
  (f:iz P tb a0 n ops σ=some (cG ops.size i p)) (e:u=some r→∀σ',Le n σ' (ir P tb a0 n ops σ)→Q .normal σ'):W P n Bw w0 (.region id ops false) σ Q:=by
 obtain⟨m,hu⟩:=aD h
 replace e:=e hu
 unfold iz at f;unfold ir at e;split at f
 ·rename_i s q c k;cases f;rw[k]at e;exact Ca j a0 k (Ja _ _ m) (e _ (Le.refl _))
 ·cases f
theorem Mh(c:bS P tb)(i:Nat){α:Type}{p:Prop}[Decidable p]{u:Option α}{r:α}(h:(if p then u else none)=some r){id:Nat}{ops:Array Oper}{d:Code}
  (e:iz P tb a0 n ops σ=some (cG ops.size i p)) (f:u=some r→W P n Bw w0 d (ir P tb a0 n ops σ) Q):W P n Bw w0 (.seq (.region id ops false) d) σ Q :=
 af (Jd c i h e fun hu=>ab (f hu))
theorem KS(c:bS P tb)(i:Nat){fid:FuncId}{args:List ag}{r:ag}(u:Pure P fid args r){id:Nat}{ops:Array Oper}
  (h:iz P tb ⟨[],[(i,oP u)]⟩ n ops σ=some (cP ops.size 0 [(i,i,oc u)])) (e:∀σ',Le n σ' (ir P tb ⟨[],[(i,oP u)]⟩ n ops σ)→Q .normal σ'):W P n Bw w0 (.region id ops false) σ Q:=GR c _ _ h e
theorem LA(c:bS P tb)(i:Nat){fid:FuncId}{args:List ag}{r:ag}(u:Pure P fid args r){id:Nat}{ops:Array Oper}{d:Code}
  (h:iz P tb ⟨[],[(i,oP u)]⟩ n ops σ=some (cP ops.size 0 [(i,i,oc u)])) (e:W P n Bw w0 d (ir P tb ⟨[],[(i,oP u)]⟩ n ops σ) Q):W P n Bw w0 (.seq (.region id ops false) d) σ Q:=Lv c _ _ h e
theorem KP(c:bS P tb)(i:Nat)(g:List Nat){fid:FuncId}{args:List ag}{hin hout:List (Nat×Obj)}{r:ag}(u:ff P fid args hin r hout){id:Nat}{ops:Array Oper}
  (h:iz P tb ⟨[],[(i,oO u g)]⟩ n ops σ=some (cP ops.size 0 [(i,i,oc u)])) (e:∀σ',Le n σ' (ir P tb ⟨[],[(i,oO u g)]⟩ n ops σ)→Q .normal σ'):W P n Bw w0 (.region id ops false) σ Q:=GR c _ _ h e
theorem L1(c:bS P tb)(i:Nat)(g:List Nat){fid:FuncId}{args:List ag}{hin hout:List (Nat×Obj)}{r:ag}(u:ff P fid args hin r hout){id:Nat}{ops:Array Oper}{d:Code}
  (h:iz P tb ⟨[],[(i,oO u g)]⟩ n ops σ=some (cP ops.size 0 [(i,i,oc u)])) (e:W P n Bw w0 d (ir P tb ⟨[],[(i,oO u g)]⟩ n ops σ) Q):W P n Bw w0 (.seq (.region id ops false) d) σ Q:=Lv c _ _ h e
theorem Ml(e:bS P tb){fid:FuncId}{args:List ag}{hin:List (Nat×Obj)}{y:Value}(_:jP P fid args hin y)(an:An)(r:Nat){id:Nat}{ops:Array Oper}(f:List (Nat×Nat×PP))
  (h:Bq P tb an n ops r σ=some (cP (r+1) 0 f,y)) (j:∀σ',Q (.panic [{ v:=y,recovered:=false }]) σ'):W P n Bw w0 (.region id ops false) σ Q:=by
 unfold Bq at h;split at h
 ·rename_i s m c p k;cases h;exact uS e an r k (wP _ _ _) (j _)
 ·cases h
theorem Ma(c:bS P tb)(r:Nat)(g:List Nat){fid:FuncId}{args:List ag}{hin:List (Nat×Obj)}{y:Value}(u:jP P fid args hin y){id:Nat}{ops:Array Oper}
  (h:Bq P tb ⟨[],[(r,oD u g)]⟩ n ops r σ=some (cP (r+1) 0 [(r,r,oc u)],y)) (e:∀σ',Q (.panic [{ v:=y,recovered:=false }]) σ'):W P n Bw w0 (.region id ops false) σ Q:=Ml c u _ r _ h e
def KY:ag→Option Bool
 | .p _ .bool b=>some b
 | _=>none
theorem wg{x:ag}{b:Bool}(h:KY x=some b):∃β,x = .p β .bool b:=by
 unfold KY at h;split at h
 ·rename_i β c;cases h;exact⟨β,rfl⟩
 ·cases h
theorem aA{b:Bool}{α:Type}{u v:Option α}{r:α}{c:Operand}{x y:Code}(h:(if b=true then u else v)=some r)
  (f:b=true→u=some r→W P n Bw w0 x σ Q) (j:b=false→v=some r→W P n Bw w0 y σ Q) (k:KY (ev σ.s c)=some b:=by kernel_rfl):W P n Bw w0 (.cond c x y) σ Q:=by
 obtain⟨β,e⟩:=wg k;exact DV e (fun hb=>f hb (LU hb h)) (fun hb=>j hb (JE hb h))
theorem nQ{b:Bool}(hb:b=true){c:Operand}{x y:Code}(f:W P n Bw w0 x σ Q)(j:KY (ev σ.s c)=some b:=by kernel_rfl):W P n Bw w0 (.cond c x y) σ Q:=by
 obtain⟨β,e⟩:=wg j;exact DV e (fun _=>f) (fun h=>by rw[hb]at h;cases h)
theorem mu{b:Bool}(hb:b=false){c:Operand}{x y:Code}(f:W P n Bw w0 y σ Q)(j:KY (ev σ.s c)=some b:=by kernel_rfl):W P n Bw w0 (.cond c x y) σ Q:=by
 obtain⟨β,e⟩:=wg j;exact DV e (fun h=>by rw[hb]at h;cases h) (fun _=>f)
theorem bg{α β:Type}{m:Option α}{k:α→Option β}{r:β}{c:Code}(h:m.bind k=some r)(f:α→St)
  (j:∀v,m=some v→W P n Bw w0 c σ (od n f v)) (p:∀v,k v=some r→∀σ',Le n σ' (f v)→Q .normal σ'):W P n Bw w0 c σ Q:=by
 obtain⟨v,q,u⟩:=aj h;refine(j v q).mono fun e σ' x=> ?_
 obtain⟨rfl,hl⟩:=x;exact p v u σ' hl
theorem Db{α β:Type}{m:Option α}{k:α→Option β}{r:β}{c:Code}(h:m.bind k=some r)(F:α→Exit→St→Prop)
  (f:∀v,m=some v→W P n Bw w0 c σ (F v)) (j:∀v,k v=some r→∀e σ',F v e σ'→Q e σ'):W P n Bw w0 c σ Q:=by
 obtain⟨v,p,q⟩:=aj h;exact(f v p).mono (j v q)
theorem jl{S T β:Type}{j:S→Option (S⊕T)}{k:T→Option β}{r:β}{c:Code}{x:S}(h:(iter j x).bind k=some r)(f:S→St)(F:T→Exit→St→Prop)(hl:Le n σ (f x))
  (step:∀y o,j y=some o→W P n Bw w0 c (f y) (nP n f F o)) (m:∀v,k v=some r→∀e σ',F v e σ'→Q e σ'):W P n Bw w0 (.loop c) σ Q:=by
 obtain⟨v,p,q⟩:=aj h;exact(JS f F p hl step).mono (m v q)
theorem cd{S T β:Type}{m:S→Option (S⊕T)}{k:T→Option β}{r:β}{c:Code}{x:S}(h:(iter m x).bind k=some r)(f:S→St)(j:Nat)(g:T→St)(hl:Le n σ (f x))
  (step:∀y o,m y=some o→W P n Bw w0 c (f y) (nP n f (dM n j g) o)) (p:∀v,k v=some r→∀σ',Le n σ' (g v)→Q (.exit j) σ'):W P n Bw w0 (.loop c) σ Q:=by
 refine jl h f (dM n j g) hl step fun v q e σ' u=> ?_
 obtain⟨rfl,hl⟩:=u;exact p v q σ' hl
theorem eN{S:Type}{f:S→St}{v a:S}(h:some a=some v)(hl:Le n σ1 (f a)):∀σ',Le n σ' σ1→od n f v .normal σ':=by cases h;exact cu hl
theorem eB{S T:Type}{f:S→St}{F:T→Exit→St→Prop}{a:S}{r:S⊕T}(h:some (Sum.inl a)=some r)(hl:Le n σ1 (f a)):∀σ',Le n σ' σ1→nP n f F r .normal σ':=by cases h;exact JW hl
theorem eX{S T:Type}{f:S→St}{g:T→St}{a:T}{r:S⊕T}{j:Nat}(h:some (Sum.inr a)=some r)(hl:Le n σ1 (g a)):∀σ',Le n σ' σ1→nP n f (dM n j g) r (.exit j) σ':=by cases h;exact cR (bC hl)
end
end Go.Tv
namespace Go.Tv
open Go Go.RowKit
open Go.IntKind (u32 u64)
def qh(x:Int):Int:=if x == 0 then 32 else Kg.getD (bits BinOp.and u32 x (-x % 4294967296)*125613361 % 4294967296 / 134217728).toNat 0
theorem Gq(y:Int):(y % 4294967296 / 134217728).toNat<32:=by omega
theorem Hg:∀i,i<32→wrap64 (Kg.getD i 0)=Kg.getD i 0:=by decide +kernel
theorem GV{x:Int}(h:(x == 0)=false):wrap64 (Kg.getD (bits BinOp.and u32 x (-x % 4294967296)*125613361 % 4294967296 / 134217728).toNat 0)=qh x:=by
 rw[Hg _ (Gq _)];simp only[qh,h,Bool.false_eq_true,if_false]
theorem FX{x:Int}(h:(x == 0)=true):qh x=32:=by simp only[qh,h,if_true]
theorem Pure.KX{P:Program}{f:FuncId}{fn:Func}(z:P.funcs[f]? = some fn)(j:(fn.name == "runtime.NumGoroutine")=false)(hb:fn.body.isNone=false){β:Bool}{x:Int}
  (h:∀w,uQ P w→Calls P f #[.int .u32 x] w fun e w'=>e = .returned (.int .i64 (qh x))∧w'=w):Pure P f [.p β (.int .u32) x] (.p false (.int .i64) (qh x)):=by
 refine⟨⟨fn,z,j,hb⟩,fun Bw w u k B c=> ?_⟩;match q:u.toList,c with
 | [v0],c =>
  have C:=bV c.1;subst C;have:u = #[.int .u32 x]:=Array.ext' q;subst this;refine(h w k).mono fun r w' ⟨D,E⟩=>⟨_,D,by subst E;exact(Kept.refl (lv k)).below,dB _ _ _⟩
end Go.Tv
namespace Go.Tv
open Go
open Go.IntKind (u32 u64)
def L7(P:Program)(t:TypeId):Option (List ag):=((P.info? t).bind (·.zero)).map fun z=>z.cells.toList.map lh
def L9(P:Program)(t:TypeId)(sz Kd:Nat):Bool :=
 match P.info? t with
 | some i=>match i.zero with
  | some z=>i.size == sz && i.bytes == Kd && z.cells.size == sz && z.cells.toList.all (·.oneCell')
  | none=>false
 | none=>false
theorem KW{P:Program}{t:TypeId}{ti:TI}(f:L7 P t=some ti.z)(e:L9 P t ti.size ti.bytes=true):
  ∃i z,P.info? t=some i∧i.zero=some z∧i.size=ti.size∧i.bytes=ti.bytes∧z.cells.toList.map lh=ti.z∧z.cells.size=ti.size∧∀c∈z.cells.toList,c.oneCell'=true:=by
 unfold L9 at e;split at e
 ·rename_i i hi;split at e
  ·rename_i z hz;simp only[Bool.and_eq_true,beq_iff_eq,List.all_eq_true]at e;obtain⟨⟨⟨a,b⟩,c⟩,d⟩:=e;unfold L7 at f;rw[hi]at f;simp only[Option.bind,hz,Option.map,Option.some.injEq]at f;exact⟨i,z,hi,hz,a,b,f,c,d⟩
  ·cases e
 ·cases e
section
variable{P:Program}{n:NS}{Bw:Nat→Prop}{w0:b9 P}{σ:St}{Q:Exit→St→Prop}{tb:bR}
theorem Ax(d:Nat){w:World}{t f:TypeId}(h:P.underlying t=some (.slice f))(e:Option Addr)(l c:Nat):(Op.equalIn (d+1) t (.slice e l c) (.slice none 0 0)).run P w = .ok e.isNone w:=by
 cases e <;> simp[Op.equalIn,run_underlying h]
def rQ(P:Program)(n:NS)(Bw:Nat→Prop)(w0:b9 P)(c:Code)(Q:Exit→St→Prop):Nat→Exit→St→Prop
 | 0,.normal,_=>False
 | k+1,.normal,σ=>W P n Bw w0 c σ (rQ P n Bw w0 c Q k)
 | _,e,σ=>Q e σ
theorem vG{c:Code}{k:Nat}{e:Exit}(f:e ≠ .normal):rQ P n Bw w0 c Q k e σ=Q e σ:=by
 cases e <;> first | exact absurd rfl f | (cases k <;> rfl)
theorem vH(k:Nat){c:Code}(h:W P n Bw w0 c σ (rQ P n Bw w0 c Q k)):W P n Bw w0 (.loop c) σ Q:=fun a w j=>by
 refine wp_loop_rounds (k+1) ?_;have key:∀k σ,W P n Bw w0 c σ (rQ P n Bw w0 c Q k)→∀a w,R n Bw w0 σ a w→Code.rounds P c (fun e m p=>∃σ',R n Bw w0 σ' m p∧Q e σ') (k+1) a w:=by
  intro k;induction k with
  | zero =>
   intro σ h a w j;refine wp_mono (h a w j) fun e m p ⟨σ',q,f⟩=> ?_
   cases e with
   | normal=>exact f.elim
   | _=>exact⟨σ',q,by rw[vG (by simp)]at f;exact f⟩
  | succ k u =>
   intro σ h a w j;refine wp_mono (h a w j) fun e m p ⟨σ',q,f⟩=> ?_
   cases e with
   | normal=>exact u σ' f m p q
   | _=>exact⟨σ',q,by rw[vG (by simp)]at f;exact f⟩
 exact key k σ h a w j
theorem sY{c:Code}{k:Nat}{σ1:St}(h:W P n Bw w0 c σ1 (rQ P n Bw w0 c Q k)):∀σ',Le n σ' σ1→rQ P n Bw w0 c Q (k+1) .normal σ':=fun _ hl=>JV hl h
theorem LP{c:Code}{k j:Nat}{σ1:St}(h:∀σ',Le n σ' σ1→Q (.exit j) σ'):∀σ',Le n σ' σ1→rQ P n Bw w0 c Q k (.exit j) σ':=fun σ' hl=>by rw[vG (by simp)];exact h σ' hl
theorem CV{c:Code}{k:Nat}(h:Q .ret σ):rQ P n Bw w0 c Q k .ret σ:=by rw[vG (by simp)];exact h
theorem DP(q:bS P tb){id:Nat}{ops:Array Oper}{z m:Oper}{d e:Nat}{t Y el:TypeId}{β:Bool}{A:Ty}{xs:List A.den}{c:Code}
  (B:ops = #[z,m]) (L:z.dst=some d) (Z:m.dst=some e) (ho:m.op = .binOp .eql t (.tmp d) (.const (.slice none 0 0)) Y) (hg:m.guard=none) (C:xD n (some e)=true)
  (D:pf P tb a0 n σ.nx ops 0 z σ.s σ.h=some (.p β (.slice A) xs,[],True)) (hu:P.underlying t=some (.slice el))
  (hq:∀b,(b=true→xs=[])→W P n Bw w0 c ⟨dr (dr σ.s (some d) (.p β (.slice A) xs)) (some e) (.p false .bool b),σ.h,σ.nx+16,σ.pn⟩ Q):W P n Bw w0 (.seq (.region id ops false) c) σ Q:=by
 refine af fun a w M=> ?_
 obtain⟨ρ,φ,q1,q2,q3⟩:=M.ex;refine wp_region ?_;rw[show ops.size=2 by rw[B];rfl,show List.range 2=[0,1]from rfl];rw[wpOps_cons];refine jO (done:=fun j=>j<0) q ⟨ρ,φ,q1,q2,fun id u hu=> .inl (q3 id u hu)⟩ (by rw[B];rfl) (Nat.lt_irrefl 0) D trivial fun a1 N hm=> ?_
 rw[wpOps_cons];obtain⟨E,φ1,r1,O,r3⟩:=hm.ex;have I:=O.sl d;rw[L,dr,aw]at I;simp only[V,ai]at I;obtain⟨-,f,l,R,k,⟨hl,-⟩,J⟩:=I;have hb:f.isNone=true→xs=[]:=fun X=>by
  cases xs with
  | nil=>rfl
  | cons y ys =>obtain⟨b,e,-⟩:=J 0 (by simp);rw[e]at X;cases X
 unfold wpOp;rw[B];simp only[List.getElem?_toArray,List.getElem?_cons_succ,List.getElem?_cons_zero];rw[if_pos (by unfold Region.wanted;rw[hg])];refine .inl ?_;refine Good.aH (post:=fun v w'=>v = .bool f.isNone∧w'=N) (v:= .bool f.isNone) (w':=N) ?_ ⟨rfl,rfl⟩ _ _ ?_
 ·simp only[execOp,ho,Act.eval,←k];rw[Sem.run_bind,Sem.run_bind,bJ (by intro cs e;cases e) (by intro e;cases e),Result.andThen_ok];rw[show binOp .eql t (.slice f l R) (.slice none 0 0)=(do pure (.bool (←Op.equal t (.slice f l R) (.slice none 0 0)))) by cases f <;> rfl];simp only[Op.equal,Op.maxDepth,Sem.run_bind,Ax 9999 hu,Result.andThen_ok];rfl
 ·rintro v w' ⟨rfl,rfl⟩;refine⟨⟨dr (dr σ.s (some d) (.p β (.slice A) xs)) (some e) (.p false .bool f.isNone),σ.h,σ.nx+16,σ.pn⟩,⟨⟨E,φ1,r1,?_,fun id u hu=> ?_⟩,M.pn⟩,hq _ hb⟩
  ·have:=O.AF (x:= .p false .bool f.isNone) (iI false f.isNone) C;rw[L]at this;rw[Z];exact this
  ·rcases r3 id u hu with h1 | ⟨i,j,h1,h2,h3⟩ <;> simp only <;> omega
end
end Go.Tv
namespace Go.Tv
open Go
open Go.IntKind (u32 u64)
def wF(a:Option Nat):Option Nat:=a.map fun n=>n % 9223372036854775808
theorem Iz(b:Nat):dw (b % 9223372036854775808)=wF (dw b):=by
 have c:FloatKind.f64.format.signWeight=9223372036854775808:=rfl;have e:(FloatKind.f64.decode (b % 9223372036854775808)).isNaN=(FloatKind.f64.decode b).isNaN:=by
  unfold FloatKind.decode Ieee.Format.read;rw[c];simp only[Nat.mod_mod];split
  ·rfl
  ·split
   ·rfl
   ·split <;> rfl
 unfold dw wF;rw[e];split <;> rfl
theorem Gs(b:Nat):bitsOf .andNot .u64 (b:Int) 9223372036854775808=((b % 9223372036854775808:Nat):Int):=by
 have c:BitVec.ofInt 64 (b:Int)=BitVec.ofNat 64 b:=BitVec.ofInt_natCast ..;have e : ~~~(BitVec.ofInt 64 9223372036854775808)=BitVec.ofNat 64 (2 ^ 63 - 1):=by decide
 have f:(BitVec.ofNat 64 b &&& BitVec.ofNat 64 (2 ^ 63 - 1)).toNat=b % 9223372036854775808:=by rw[BitVec.toNat_and,BitVec.toNat_ofNat,BitVec.toNat_ofNat,Nat.mod_eq_of_lt (show 2 ^ 63 - 1<2 ^ 64 by decide),Nat.and_two_pow_sub_one_eq_mod];omega
 unfold bitsOf;show u64.wrap ((BitVec.ofInt 64 (b:Int) &&& ~~~(BitVec.ofInt 64 9223372036854775808)).toNat:Int)=_;rw[c,e,f];have:=Nat.mod_lt b (show 0<9223372036854775808 by decide);generalize b % 9223372036854775808=r at this;simp only[IntKind.wrap,IntKind.min,IntKind.max,IntKind.bits,IntKind.signed]
 first | omega | (simp;omega)
theorem Hv(b:Nat):(bits BinOp.andNot u64 (b:Int) 9223372036854775808).toNat=b % 9223372036854775808:=by
 rw[show bits BinOp.andNot u64 (b:Int) 9223372036854775808=bitsOf .andNot .u64 (b:Int) 9223372036854775808 from rfl,Gs,Int.toNat_natCast]
theorem Pure.J6{P:Program}{f:FuncId}{fn:Func}(B:P.funcs[f]? = some fn)(j:(fn.name == "runtime.NumGoroutine")=false)(hb:fn.body.isNone=false){β:Bool}{a:Option Nat}
  (h:∀(b:Nat) w,Calls P f #[.float .f64 b] w fun e w'=>e = .returned (.float .f64 (b % 9223372036854775808))∧w'=w):Pure P f [.p β .flt a] (.p false .flt (wF a)):=by
 refine⟨⟨fn,B,j,hb⟩,fun Bw w z q C c=> ?_⟩;match u:z.toList,c with
 | [v0],c =>
  have k:=c.1;simp only[V,ai]at k;obtain⟨-,m,k,D⟩:=k;subst k D;have:z = #[.float .f64 m]:=Array.ext' u;subst this;refine(h m w).mono fun r w' ⟨E,I⟩=>⟨_,E,by subst I;exact(Kept.refl (lv q)).below,?_⟩
  simp only[V,ai];exact⟨rfl,_,rfl,Iz m⟩
end Go.Tv
