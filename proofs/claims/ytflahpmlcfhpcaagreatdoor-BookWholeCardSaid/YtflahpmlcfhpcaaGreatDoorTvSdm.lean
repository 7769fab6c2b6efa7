import Derived.Test.YtflahpmlcfhpcaaGreatDoorTvSam
import Derived.KernelRfl
import Derived.WalkKit
import Derived.Lib.TrailingZeros
import Derived.LoopN
namespace Go.Tv
open Go
open Go.IntKind (u32 u64)
theorem tt:True:=trivial
def Ts:Nat→List Prop→List Prop
 | 0,l=>l
 | n+1,l=>True::Ts n l
theorem tr:∀(n:Nat) {l:List Prop},oU l→oU (Ts n l)
 | 0,_,h=>h
 | n+1,_,h=>⟨trivial,tr n h⟩
theorem sI{α:Type}{a b:α}(h:some a=some b):a=b:=Option.some.inj h
theorem nl{a b:Nat}(h:Nat.ble a b=true):a≤b:=Nat.le_of_ble_eq_true h
def pO{p:Prop}(_:p):Prop:=p
section
variable{P:Program}{n:NS}{Bw:Nat→Prop}{w0:cz P}{σ:St}{Q:Exit→St→Prop}{tb:bQ}
theorem gl(e:List G)(f:QV){l:List (Nat×af)}{m:Qw}{nx pn:Nat}(h:(goal e f l m σ,(σ.pn == pn && kB (Gw f) l m nx pn))=(some (want f l m),true)):Le n σ (aA l m nx pn):=uB (Prod.mk.inj h).1 (Prod.mk.inj h).2
end
structure PP where
 p:Prop
 h:p
def oc{p:Prop}(h:p):PP:=⟨p,h⟩
def cP:Nat→Nat→List (Nat×Nat×PP)→List Prop
 | 0,_,_=>[]
 | k+1,i,[]=>True::cP k (i+1) []
 | k+1,i,(j,e,c)::r=>match Nat.blt i j,Nat.blt i e with
  | true,_=>True::cP k (i+1) ((j,e,c)::r)
  | false,true=>c.p::cP k (i+1) ((j,e,c)::r)
  | false,false=>c.p::cP k (i+1) r
theorem u3:∀(k i:Nat) (l:List (Nat×Nat×PP)),oU (cP k i l)
 | 0,_,_=>trivial
 | k+1,i,[]=>⟨trivial,u3 k (i+1) []⟩
 | k+1,i,(j,e,c)::r=>by
  unfold cP;split
  ·exact⟨trivial,u3 k (i+1) _⟩
  ·exact⟨c.h,u3 k (i+1) _⟩
  ·exact⟨c.h,u3 k (i+1) _⟩
def an{p:Prop}(h:p):PP:=oc (And.intro h trivial)
def ct:List Bool:=List.replicate 40 true
def a0:An:=⟨[],[]⟩
section
variable{P:Program}{fid:FuncId}{args:List af}{hin:Qw}
def oP{r:af}(_:Pure P fid args r)(fl:List Bool:=[])(cn:List Bool:=ct):uY:=⟨r,fl,false,cn,[],[],none⟩
def oO{r:af}{hout:Qw}(_:jo P fid args hin r hout)(g:QV)(fl:List Bool:=[])(cn:List Bool:=ct):uY:=⟨r,fl,true,cn,g,hout,none⟩
def oD{x:Value}(_:jD P fid args hin x)(g:QV)(fl:List Bool:=[])(cn:List Bool:=ct):uY:=⟨.unk,fl,true,cn,g,[],some x⟩
end
theorem gg{n:NS}{σ:St}(e:List G)(f:QV){l:List (Nat×af)}{m:Qw}{nx pn:Nat}(h:(goal e f l m σ,(σ.pn == pn && kB (Gw f) l m nx pn))=(some (want f l m),true):=by kernel_rfl):Le n σ (aA l m nx pn):=gl e f h
theorem g2{α:Type}{p q:Prop}[Decidable p][Decidable q]{x:Option α}{r:α}(h:(if p then(if q then x else none)else none)=some r):p∧q∧x=some r:=⟨(aE h).1,aE (aE h).2⟩
theorem g3{α:Type}{p q s:Prop}[Decidable p][Decidable q][Decidable s]{x:Option α}{r:α}(h:(if p then(if q then(if s then x else none)else none)else none)=some r):p∧q∧s∧x=some r:=⟨(aE h).1,g2 (aE h).2⟩
theorem g4{α:Type}{p q s t:Prop}[Decidable p][Decidable q][Decidable s][Decidable t]{x:Option α}{r:α}(h:(if p then(if q then(if s then(if t then x else none)else none)else none)else none)=some r):p∧q∧s∧t∧x=some r:=⟨(aE h).1,g3 (aE h).2⟩
theorem aM{α:Type}{b:Bool}{x y:Option α}{r:α}(h:(if b=true then x else y)=some r):(b=true∧x=some r)∨(b=false∧y=some r):=by
 cases b with
 | true=>exact .inl ⟨rfl,h⟩
 | false=>exact .inr ⟨rfl,h⟩
section
variable{P:Program}{n:NS}{Bw:Nat→Prop}{w0:cz P}{σ σ1:St}{Q:Exit→St→Prop}{tb:bQ}
def iE(P:Program)(tb:bQ)(an:An)(n:NS)(ops:Array Oper)(σ:St):St :=
 match EC P tb an n σ.nx ops ops.toList 0 σ.s σ.h with
 | some (s,h,_)=>⟨s,h,σ.nx+8*ops.size,σ.pn⟩
 | none=>σ
def iD(P:Program)(tb:bQ)(an:An)(n:NS)(ops:Array Oper)(σ:St):Option (List Prop) :=
 match EC P tb an n σ.nx ops ops.toList 0 σ.s σ.h with
 | some (_,_,c)=>some c
 | none=>none
def Ac(P:Program)(tb:bQ)(an:An)(n:NS)(ops:Array Oper)(σ:St):St :=
 match A6 P tb an n σ.nx ops ops.toList 0 σ.s σ.h with
 | some (s,h,_,_)=>⟨s,h,σ.nx+8*ops.size,σ.pn⟩
 | none=>σ
def A5(P:Program)(tb:bQ)(an:An)(n:NS)(ops:Array Oper)(σ:St):Option (List Prop) :=
 match A6 P tb an n σ.nx ops ops.toList 0 σ.s σ.h with
 | some (_,_,c,e)=>match Fl ops (qA e) (qb e) (pK ops) ops.size 0 (Array.replicate ops.size false)with
  | true=>some c
  | false=>none
 | none=>none
def Ag(P:Program)(tb:bQ)(an:An)(n:NS)(ops:Array Oper)(r:Nat)(σ:St):Option (List Prop×Value) :=
 match n9 P tb an n σ.nx ops r ops.toList 0 σ.s σ.h with
 | some (_,_,c,y)=>some (c,y)
 | none=>none
theorem ab{d:Code}(h:W P n Bw w0 d σ1 Q):∀σ',Le n σ' σ1→xY P n Bw w0 d Q .normal σ':=fun _ hl=>If hl h
def Dm(e:List G)(σ:St):St :=
 match o6 e σ with
 | some σ'=>σ'
 | none=>σ
theorem lF(j:List G){c:Code}(h:(o6 j σ).isSome=true)(f:W P n Bw w0 c (Dm j σ) Q):W P n Bw w0 c σ Q:=by
 unfold Dm at f;split at f
 ·rename_i σ' e;exact If (su e) f
 ·rename_i e;rw[e]at h;cases h
def FU:Qz→QJ
 | some (.nds _ _ e none)=>some e.length
 | _=>none
def JR(id i:Nat)(f:Bool)(σ:St):St :=
 match σ.h id with
 | some (.nds e j p none)=>⟨σ.s,bF (bF σ.h id (some (.nds e j p (some (i,f,σ.nx))))) σ.nx (some (uW j f (p.getD i Nd.z))),σ.nx+1,σ.pn⟩
 | _=>σ
theorem Iq{id i m:Nat}(f:Bool)(hi:i<m)(q:FU (σ.h id)=some m):Le n σ (JR id i f σ):=fun P Bw w0 a w x=>by
 unfold FU at q;split at q
 ·rename_i e L M p;cases q;obtain⟨ρ,φ,B,C,z⟩:=x.ex;have hn:ρ σ.nx=none:=by
   cases D:ρ σ.nx with
   | none=>rfl
   | some u=>have:=z _ _ D;omega
  obtain⟨v,_,E,I,J⟩:=B.Kf f p hn hi;unfold JR;rw[p];refine⟨⟨_,_,E,C.mono I J,fun j u A=>?_⟩,x.pn⟩;by_cases e:j=σ.nx
  ·subst e;exact Nat.lt_succ_self _
  ·rw[aR _ _ e]at A;exact Nat.lt_succ_of_lt (z _ _ A)
 ·cases q
theorem xC(id i:Nat)(f:Bool){c:Code}{m:Nat}(hi:i<m)(e:FU (σ.h id)=some m)(j:W P n Bw w0 c (JR id i f σ) Q):W P n Bw w0 c σ Q:=If (Iq f hi e) j
theorem Gg(e:cb P tb)(an:An){id:Nat}{ops:Array Oper}(p:List (Nat×Nat×PP))
  (h:iD P tb an n ops σ=some (cP ops.size 0 p)) (f:∀σ',Le n σ' (iE P tb an n ops σ)→Q .normal σ'):W P n Bw w0 (.region id ops false) σ Q:=by
 unfold iD at h;unfold iE at f;split at h
 ·rename_i s q c j;cases h;rw[j]at f;exact Bd e an j (u3 _ _ _) (f _ (Le.refl _))
 ·cases h
theorem Lx(e:cb P tb)(an:An){id:Nat}{ops:Array Oper}{d:Code}(f:List (Nat×Nat×PP))
  (h:iD P tb an n ops σ=some (cP ops.size 0 f)) (j:W P n Bw w0 d (iE P tb an n ops σ) Q):W P n Bw w0 (.seq (.region id ops false) d) σ Q :=
 ag (Gg e an f h (ab j))
theorem KV(e:cb P tb)(p:P.follows .mixedOrders=true)(an:An){id:Nat}{ops:Array Oper}(q:List (Nat×Nat×PP))
  (h:A5 P tb an n ops σ=some (cP ops.size 0 q)) (f:∀σ',Le n σ' (Ac P tb an n ops σ)→Q .normal σ'):W P n Bw w0 (.region id ops true) σ Q:=by
 unfold A5 at h;unfold Ac at f;split at h
 ·rename_i s v c x j;split at h
  ·rename_i u;cases h;rw[j]at f;exact J9 e p an j u (u3 _ _ _) (f _ (Le.refl _))
  ·cases h
 ·cases h
theorem MY(e:cb P tb)(j:P.follows .mixedOrders=true)(an:An){id:Nat}{ops:Array Oper}{d:Code}(f:List (Nat×Nat×PP))
  (h:A5 P tb an n ops σ=some (cP ops.size 0 f)) (p:W P n Bw w0 d (Ac P tb an n ops σ) Q):W P n Bw w0 (.seq (.region id ops true) d) σ Q :=
 ag (KV e j an f h (ab p))
def cG:Nat→Nat→Prop→List Prop
 | 0,_,_=>[]
 | k+1,0,p=>p::Ts k []
 | k+1,i+1,p=>True::cG k i p
theorem IW:∀(k i:Nat) {p:Prop},p→oU (cG k i p)
 | 0,_,_,_=>trivial
 | k+1,0,_,h=>⟨h,tr k trivial⟩
 | k+1,i+1,_,h=>⟨trivial,IW k i h⟩
theorem Ja(f:cb P tb)(i:Nat){α:Type}{p:Prop}[Decidable p]{u:Option α}{r:α}(h:(if p then u else none)=some r){id:Nat}{ops:Array Oper}
  (hk:iD P tb a0 n ops σ=some (cG ops.size i p)) (e:u=some r→∀σ',Le n σ' (iE P tb a0 n ops σ)→Q .normal σ'):W P n Bw w0 (.region id ops false) σ Q:=by
 obtain⟨q,hu⟩:=aE h
 replace e:=e hu
 unfold iD at hk;unfold iE at e;split at hk
 ·rename_i s v c j;cases hk;rw[j]at e;exact Bd f a0 j (IW _ _ q) (e _ (Le.refl _))
 ·cases hk
theorem L2(e:cb P tb)(i:Nat){α:Type}{p:Prop}[Decidable p]{u:Option α}{r:α}(h:(if p then u else none)=some r){id:Nat}{ops:Array Oper}{d:Code}
  (hk:iD P tb a0 n ops σ=some (cG ops.size i p)) (f:u=some r→W P n Bw w0 d (iE P tb a0 n ops σ) Q):W P n Bw w0 (.seq (.region id ops false) d) σ Q :=
 ag (Ja e i h hk fun hu=>ab (f hu))
theorem K9(e:cb P tb)(i:Nat){fid:FuncId}{args:List af}{r:af}(u:Pure P fid args r){id:Nat}{ops:Array Oper}
  (h:iD P tb ⟨[],[(i,oP u)]⟩ n ops σ=some (cP ops.size 0 [(i,i,oc u)])) (f:∀σ',Le n σ' (iE P tb ⟨[],[(i,oP u)]⟩ n ops σ)→Q .normal σ'):W P n Bw w0 (.region id ops false) σ Q:=Gg e _ _ h f
theorem LS(e:cb P tb)(i:Nat){fid:FuncId}{args:List af}{r:af}(u:Pure P fid args r){id:Nat}{ops:Array Oper}{d:Code}
  (h:iD P tb ⟨[],[(i,oP u)]⟩ n ops σ=some (cP ops.size 0 [(i,i,oc u)])) (f:W P n Bw w0 d (iE P tb ⟨[],[(i,oP u)]⟩ n ops σ) Q):W P n Bw w0 (.seq (.region id ops false) d) σ Q:=Lx e _ _ h f
theorem Lo(e:cb P tb)(i:Nat)(g:QV){fid:FuncId}{args:List af}{hin hout:Qw}{r:af}(u:jo P fid args hin r hout){id:Nat}{ops:Array Oper}
  (h:iD P tb ⟨[],[(i,oO u g)]⟩ n ops σ=some (cP ops.size 0 [(i,i,oc u)])) (f:∀σ',Le n σ' (iE P tb ⟨[],[(i,oO u g)]⟩ n ops σ)→Q .normal σ'):W P n Bw w0 (.region id ops false) σ Q:=Gg e _ _ h f
theorem LZ(e:cb P tb)(i:Nat)(g:QV){fid:FuncId}{args:List af}{hin hout:Qw}{r:af}(u:jo P fid args hin r hout){id:Nat}{ops:Array Oper}{d:Code}
  (h:iD P tb ⟨[],[(i,oO u g)]⟩ n ops σ=some (cP ops.size 0 [(i,i,oc u)])) (f:W P n Bw w0 d (iE P tb ⟨[],[(i,oO u g)]⟩ n ops σ) Q):W P n Bw w0 (.seq (.region id ops false) d) σ Q:=Lx e _ _ h f
theorem MB(e:cb P tb){fid:FuncId}{args:List af}{hin:Qw}{y:Value}(_:jD P fid args hin y)(an:An)(r:Nat){id:Nat}{ops:Array Oper}(f:List (Nat×Nat×PP))
  (h:Ag P tb an n ops r σ=some (cP (r+1) 0 f,y)) (j:∀σ',Q (.panic [{ v:=y,recovered:=false }]) σ'):W P n Bw w0 (.region id ops false) σ Q:=by
 unfold Ag at h;split at h
 ·rename_i s q c u p;cases h;exact ta e an r p (u3 _ _ _) (j _)
 ·cases h
theorem L6(e:cb P tb)(r:Nat)(g:QV){fid:FuncId}{args:List af}{hin:Qw}{y:Value}(u:jD P fid args hin y){id:Nat}{ops:Array Oper}
  (h:Ag P tb ⟨[],[(r,oD u g)]⟩ n ops r σ=some (cP (r+1) 0 [(r,r,oc u)],y)) (f:∀σ',Q (.panic [{ v:=y,recovered:=false }]) σ'):W P n Bw w0 (.region id ops false) σ Q:=MB e u _ r _ h f
def KK:af→Option Bool
 | .p _ .bool b=>some b
 | _=>none
theorem vl{x:af}{b:Bool}(h:KK x=some b):∃β,x = .p β .bool b:=by
 unfold KK at h;split at h
 ·rename_i β e;cases h;exact⟨β,rfl⟩
 ·cases h
theorem aC{b:Bool}{α:Type}{u v:Option α}{r:α}{c:Operand}{x y:Code}(h:(if b=true then u else v)=some r)
  (f:b=true→u=some r→W P n Bw w0 x σ Q) (j:b=false→v=some r→W P n Bw w0 y σ Q) (hc:KK (ev σ.s c)=some b:=by kernel_rfl):W P n Bw w0 (.cond c x y) σ Q:=by
 obtain⟨β,e⟩:=vl hc;exact Cd e (fun hb=>f hb (LH hb h)) (fun hb=>j hb (J2 hb h))
theorem zz{b:Bool}(hb:b=true){c:Operand}{x y:Code}(f:W P n Bw w0 x σ Q)(hc:KK (ev σ.s c)=some b:=by kernel_rfl):W P n Bw w0 (.cond c x y) σ Q:=by
 obtain⟨β,e⟩:=vl hc;exact Cd e (fun _=>f) (fun h=>by rw[hb]at h;cases h)
theorem HO{b:Bool}(hb:b=false){c:Operand}{x y:Code}(f:W P n Bw w0 y σ Q)(hc:KK (ev σ.s c)=some b:=by kernel_rfl):W P n Bw w0 (.cond c x y) σ Q:=by
 obtain⟨β,e⟩:=vl hc;exact Cd e (fun h=>by rw[hb]at h;cases h) (fun _=>f)
theorem bB{α β:Type}{m:Option α}{k:α→Option β}{r:β}{c:Code}(h:m.bind k=some r)(f:α→St)
  (j:∀v,m=some v→W P n Bw w0 c σ (nV n f v)) (p:∀v,k v=some r→∀σ',Le n σ' (f v)→Q .normal σ'):W P n Bw w0 c σ Q:=by
 obtain⟨v,q,u⟩:=aj h;refine(j v q).mono fun e σ' x=>?_
 obtain⟨rfl,hl⟩:=x;exact p v u σ' hl
theorem C1{α β:Type}{m:Option α}{k:α→Option β}{r:β}{c:Code}(h:m.bind k=some r)(F:α→Exit→St→Prop)
  (f:∀v,m=some v→W P n Bw w0 c σ (F v)) (j:∀v,k v=some r→∀e σ',F v e σ'→Q e σ'):W P n Bw w0 c σ Q:=by
 obtain⟨v,p,q⟩:=aj h;exact(f v p).mono (j v q)
theorem kF{S T β:Type}{j:S→Option (S⊕T)}{k:T→Option β}{r:β}{c:Code}{x:S}(h:(iter j x).bind k=some r)(f:S→St)(F:T→Exit→St→Prop)(hl:Le n σ (f x))
  (step:∀y o,j y=some o→W P n Bw w0 c (f y) (nm n f F o)) (p:∀v,k v=some r→∀e σ',F v e σ'→Q e σ'):W P n Bw w0 (.loop c) σ Q:=by
 obtain⟨v,q,u⟩:=aj h;exact(JW f F q hl step).mono (p v u)
theorem cI{S T β:Type}{p:S→Option (S⊕T)}{k:T→Option β}{r:β}{c:Code}{x:S}(h:(iter p x).bind k=some r)(f:S→St)(j:Nat)(g:T→St)(hl:Le n σ (f x))
  (step:∀y o,p y=some o→W P n Bw w0 c (f y) (nm n f (fp n j g) o)) (q:∀v,k v=some r→∀σ',Le n σ' (g v)→Q (.exit j) σ'):W P n Bw w0 (.loop c) σ Q:=by
 refine kF h f (fp n j g) hl step fun v hk e σ' u=>?_
 obtain⟨rfl,hl⟩:=u;exact q v hk σ' hl
theorem eN{S:Type}{f:S→St}{v a:S}(h:some a=some v)(hl:Le n σ1 (f a)):∀σ',Le n σ' σ1→nV n f v .normal σ':=by cases h;exact cN hl
theorem eB{S T:Type}{f:S→St}{F:T→Exit→St→Prop}{a:S}{r:S⊕T}(h:some (Sum.inl a)=some r)(hl:Le n σ1 (f a)):∀σ',Le n σ' σ1→nm n f F r .normal σ':=by cases h;exact JN hl
theorem eX{S T:Type}{f:S→St}{g:T→St}{a:T}{r:S⊕T}{j:Nat}(h:some (Sum.inr a)=some r)(hl:Le n σ1 (g a)):∀σ',Le n σ' σ1→nm n f (fp n j g) r (.exit j) σ':=by cases h;exact dN (bR hl)
end
end Go.Tv
namespace Go.Tv
open Go Go.RowKit
open Go.IntKind (u32 u64)
def pJ(x:Int):Int:=if x == 0 then 32 else I4.getD (bits BinOp.and u32 x (-x % 4294967296)*125613361 % 4294967296 / 134217728).toNat 0
theorem HA(y:Int):(y % 4294967296 / 134217728).toNat<32:=by omega
theorem Gy:∀i,i<32→wrap64 (I4.getD i 0)=I4.getD i 0:=by decide +kernel
theorem FW{x:Int}(h:(x == 0)=false):wrap64 (I4.getD (bits BinOp.and u32 x (-x % 4294967296)*125613361 % 4294967296 / 134217728).toNat 0)=pJ x:=by
 rw[Gy _ (HA _)];simp only[pJ,h,Bool.false_eq_true,if_false]
theorem EA{x:Int}(h:(x == 0)=true):pJ x=32:=by simp only[pJ,h,if_true]
theorem Pure.KM{P:Program}{f:FuncId}{fn:Func}(C:P.funcs[f]? = some fn)(q:(fn.name == "runtime.NumGoroutine")=false)(hb:fn.body.isNone=false){β:Bool}{x:Int}
  (h:∀w,tC P w→Calls P f #[.int .u32 x] w fun e w'=>e = .returned (.int .i64 (pJ x))∧w'=w):Pure P f [.p β (.int .u32) x] (.p false (.int .i64) (pJ x)):=by
 refine⟨⟨fn,C,q,hb⟩,fun Bw w B u D j=>?_⟩;match z:B.toList,j with
 | [v0],j =>
  have E:=bU j.1;subst E;have:B = #[.int .u32 x]:=Array.ext' z;subst this;refine(h w u).mono fun r w' ⟨I,J⟩=>⟨_,I,by subst J;exact(Kept.refl (kY u)).below,dC _ _ _⟩
end Go.Tv
namespace Go.Tv
open Go
open Go.IntKind (u32 u64)
def Mi(P:Program)(t:TypeId):Option (List af):=((P.info? t).bind (·.zero)).map fun z=>z.cells.toList.map jW
def LM(P:Program)(t:TypeId)(sz KC:Nat):Bool :=
 match P.info? t with
 | some i=>match i.zero with
  | some z=>i.size == sz && i.bytes == KC && z.cells.size == sz && z.cells.toList.all (·.oneCell')
  | none=>false
 | none=>false
theorem Li{P:Program}{t:TypeId}{ti:TI}(f:Mi P t=some ti.z)(e:LM P t ti.size ti.bytes=true):
  ∃i z,P.info? t=some i∧i.zero=some z∧i.size=ti.size∧i.bytes=ti.bytes∧z.cells.toList.map jW=ti.z∧z.cells.size=ti.size∧∀c∈z.cells.toList,c.oneCell'=true:=by
 unfold LM at e;split at e
 ·rename_i i hi;split at e
  ·rename_i z hz;simp only[Bool.and_eq_true,beq_iff_eq,List.all_eq_true]at e;obtain⟨⟨⟨a,b⟩,c⟩,d⟩:=e;unfold Mi at f;rw[hi]at f;simp only[Option.bind,hz,Option.map,Option.some.injEq]at f;exact⟨i,z,hi,hz,a,b,f,c,d⟩
  ·cases e
 ·cases e
section
variable{P:Program}{n:NS}{Bw:Nat→Prop}{w0:cz P}{σ:St}{Q:Exit→St→Prop}{tb:bQ}
theorem ze(d:Nat){w:World}{t f:TypeId}(h:P.underlying t=some (.slice f))(e:Option Addr)(l c:Nat):(Op.equalIn (d+1) t (.slice e l c) (.slice none 0 0)).run P w = .ok e.isNone w:=by
 cases e <;> simp[Op.equalIn,run_underlying h]
def rQ(P:Program)(n:NS)(Bw:Nat→Prop)(w0:cz P)(c:Code)(Q:Exit→St→Prop):Nat→Exit→St→Prop
 | 0,.normal,_=>False
 | k+1,.normal,σ=>W P n Bw w0 c σ (rQ P n Bw w0 c Q k)
 | _,e,σ=>Q e σ
theorem uw{c:Code}{k:Nat}{e:Exit}(f:e ≠ .normal):rQ P n Bw w0 c Q k e σ=Q e σ:=by
 cases e <;> first | exact absurd rfl f | (cases k <;> rfl)
theorem Gk(k:Nat){c:Code}(h:W P n Bw w0 c σ (rQ P n Bw w0 c Q k)):W P n Bw w0 (.loop c) σ Q:=fun a w j=>by
 refine wp_loop_rounds (k+1) ?_;have key:∀k σ,W P n Bw w0 c σ (rQ P n Bw w0 c Q k)→∀a w,R n Bw w0 σ a w→Code.rounds P c (fun e p q=>∃σ',R n Bw w0 σ' p q∧Q e σ') (k+1) a w:=by
  intro k;induction k with
  | zero =>
   intro σ h a w j;refine wp_mono (h a w j) fun e p q ⟨σ',u,f⟩=>?_
   cases e with
   | normal=>exact f.elim
   | _=>exact⟨σ',u,by rw[uw (by simp)]at f;exact f⟩
  | succ k v =>
   intro σ h a w j;refine wp_mono (h a w j) fun e p q ⟨σ',u,f⟩=>?_
   cases e with
   | normal=>exact v σ' f p q u
   | _=>exact⟨σ',u,by rw[uw (by simp)]at f;exact f⟩
 exact key k σ h a w j
theorem F0{c:Code}{k:Nat}{σ1:St}(h:W P n Bw w0 c σ1 (rQ P n Bw w0 c Q k)):∀σ',Le n σ' σ1→rQ P n Bw w0 c Q (k+1) .normal σ':=fun _ hl=>If hl h
theorem MG{c:Code}{k j:Nat}{σ1:St}(h:∀σ',Le n σ' σ1→Q (.exit j) σ'):∀σ',Le n σ' σ1→rQ P n Bw w0 c Q k (.exit j) σ':=fun σ' hl=>by rw[uw (by simp)];exact h σ' hl
theorem Cx{c:Code}{k:Nat}(h:Q .ret σ):rQ P n Bw w0 c Q k .ret σ:=by rw[uw (by simp)];exact h
theorem Ju(z:cb P tb){id:Nat}{ops:Array Oper}{B o1:Oper}{d e:Nat}{t Y el:TypeId}{β:Bool}{A:Ty}{xs:List A.den}{c:Code}
  (C:ops = #[B,o1]) (hd:B.dst=some d) (Z:o1.dst=some e) (ho:o1.op = .binOp .eql t (.tmp d) (.const (.slice none 0 0)) Y) (hg:o1.guard=none) (D:DK n (some e)=true)
  (E:o7 P tb a0 n σ.nx ops 0 B σ.s σ.h=some (.p β (.slice A) xs,[],True)) (hu:P.underlying t=some (.slice el))
  (hq:∀b,(b=true→xs=[])→W P n Bw w0 c ⟨j5 (j5 σ.s (some d) (.p β (.slice A) xs)) (some e) (.p false .bool b),σ.h,σ.nx+16,σ.pn⟩ Q):W P n Bw w0 (.seq (.region id ops false) c) σ Q:=by
 refine ag fun a w M=>?_
 obtain⟨ρ,φ,q1,q2,q3⟩:=M.ex;refine wp_region ?_;rw[show ops.size=2 by rw[C];rfl,show List.range 2=[0,1]from rfl];rw[wpOps_cons];refine jN (done:=fun j=>j<0) z ⟨ρ,φ,q1,q2,fun id u hu=> .inl (q3 id u hu)⟩ (by rw[C];rfl) (Nat.lt_irrefl 0) E trivial fun a1 N hm=>?_
 rw[wpOps_cons];obtain⟨I,φ1,r1,O,r3⟩:=hm.ex;have J:=O.sl d;rw[hd,j5,aB]at J;simp only[V,ah]at J;obtain⟨-,f,l,X,q,⟨hl,-⟩,L⟩:=J;have hb:f.isNone=true→xs=[]:=fun hn=>by
  cases xs with
  | nil=>rfl
  | cons y ys =>obtain⟨b,e,-⟩:=L 0 (by simp);rw[e]at hn;cases hn
 unfold wpOp;rw[C];simp only[List.getElem?_toArray,List.getElem?_cons_succ,List.getElem?_cons_zero];rw[if_pos (by unfold Region.wanted;rw[hg])];refine .inl ?_;refine Good.aG (post:=fun v w'=>v = .bool f.isNone∧w'=N) (v:= .bool f.isNone) (w':=N) ?_ ⟨rfl,rfl⟩ _ _ ?_
 ·simp only[execOp,ho,Act.eval,←q];rw[Sem.run_bind,Sem.run_bind,bI (by intro cs e;cases e) (by intro e;cases e),Result.andThen_ok];rw[show binOp .eql t (.slice f l X) (.slice none 0 0)=(do pure (.bool (←Op.equal t (.slice f l X) (.slice none 0 0)))) by cases f <;> rfl];simp only[Op.equal,Op.maxDepth,Sem.run_bind,ze 9999 hu,Result.andThen_ok];rfl
 ·rintro v w' ⟨rfl,rfl⟩;refine⟨⟨j5 (j5 σ.s (some d) (.p β (.slice A) xs)) (some e) (.p false .bool f.isNone),σ.h,σ.nx+16,σ.pn⟩,⟨⟨I,φ1,r1,?_,fun id u hu=>?_⟩,M.pn⟩,hq _ hb⟩
  ·have:=O.Kc (x:= .p false .bool f.isNone) (iP false f.isNone) D;rw[hd]at this;rw[Z];exact this
  ·rcases r3 id u hu with h1 | ⟨i,j,h1,h2,h3⟩ <;> simp only <;> omega
end
def vM(a:QJ):QJ:=a.map fun n=>n % 9223372036854775808
theorem Iz(b:Nat):eA (b % 9223372036854775808)=vM (eA b):=by
 have f:FloatKind.f64.format.signWeight=9223372036854775808:=rfl;have e:(FloatKind.f64.decode (b % 9223372036854775808)).isNaN=(FloatKind.f64.decode b).isNaN:=by
  unfold FloatKind.decode Ieee.Format.read;rw[f];simp only[Nat.mod_mod];split
  ·rfl
  ·split
   ·rfl
   ·split <;> rfl
 unfold eA vM;rw[e];split <;> rfl
theorem Gu(b:Nat):bitsOf .andNot .u64 (b:Int) 9223372036854775808=((b % 9223372036854775808:Nat):Int):=by
 have e:BitVec.ofInt 64 (b:Int)=BitVec.ofNat 64 b:=BitVec.ofInt_natCast ..;have f : ~~~(BitVec.ofInt 64 9223372036854775808)=BitVec.ofNat 64 (2 ^ 63 - 1):=by decide
 have j:(BitVec.ofNat 64 b &&& BitVec.ofNat 64 (2 ^ 63 - 1)).toNat=b % 9223372036854775808:=by rw[BitVec.toNat_and,BitVec.toNat_ofNat,BitVec.toNat_ofNat,Nat.mod_eq_of_lt (show 2 ^ 63 - 1<2 ^ 64 by decide),Nat.and_two_pow_sub_one_eq_mod];omega
 unfold bitsOf;show u64.wrap ((BitVec.ofInt 64 (b:Int) &&& ~~~(BitVec.ofInt 64 9223372036854775808)).toNat:Int)=_;rw[e,f,j];have:=Nat.mod_lt b (show 0<9223372036854775808 by decide);generalize b % 9223372036854775808=r at this;simp only[IntKind.wrap,IntKind.min,IntKind.max,IntKind.bits,IntKind.signed]
 first | omega | (simp;omega)
theorem Hg(b:Nat):(bits BinOp.andNot u64 (b:Int) 9223372036854775808).toNat=b % 9223372036854775808:=by
 rw[show bits BinOp.andNot u64 (b:Int) 9223372036854775808=bitsOf .andNot .u64 (b:Int) 9223372036854775808 from rfl,Gu,Int.toNat_natCast]
theorem Pure.JA{P:Program}{f:FuncId}{fn:Func}(D:P.funcs[f]? = some fn)(q:(fn.name == "runtime.NumGoroutine")=false)(hb:fn.body.isNone=false){β:Bool}{a:QJ}
  (h:∀(b:Nat) w,Calls P f #[.float .f64 b] w fun e w'=>e = .returned (.float .f64 (b % 9223372036854775808))∧w'=w):Pure P f [.p β .flt a] (.p false .flt (vM a)):=by
 refine⟨⟨fn,D,q,hb⟩,fun Bw w C z E j=>?_⟩;match B:C.toList,j with
 | [v0],j =>
  have u:=j.1;simp only[V,ah]at u;obtain⟨-,m,u,I⟩:=u;subst u I;have:C = #[.float .f64 m]:=Array.ext' B;subst this;refine(h m w).mono fun r w' ⟨J,L⟩=>⟨_,J,by subst L;exact(Kept.refl (kY z)).below,?_⟩
  simp only[V,ah];exact⟨rfl,_,rfl,Iz m⟩
end Go.Tv
