import Derived.Test.YtflahpmlcfhpcaaGreatDoorTvSam
import Derived.KernelRfl
import Derived.WalkKit
import Derived.Lib.TrailingZeros
import Derived.LoopN
namespace Go.Tv
open Go
open Go.IntKind (u32 u64)
theorem tt:True:=trivial
def Ts:Nat→List Prop→List Prop
 | 0,l=>l
 | n+1,l=>True::Ts n l
theorem tr:∀(n:Nat) {l:List Prop},oU l→oU (Ts n l)
 | 0,_,h=>h
 | n+1,_,h=>⟨trivial,tr n h⟩
theorem sI{α:Type}{a b:α}(h:some a=some b):a=b:=Option.some.inj h
theorem nl{a b:Nat}(h:Nat.ble a b=true):a≤b:=Nat.le_of_ble_eq_true h
def pO{p:Prop}(_:p):Prop:=p
section
variable{P:Program}{n:NS}{Bw:Nat→Prop}{w0:cw P}{σ:St}{Q:Exit→St→Prop}{tb:bU}
theorem gl(e:List G)(f:QV){l:List (Nat×ag)}{m:Qw}{nx pn:Nat}(h:(goal e f l m σ,(σ.pn == pn && kG (GL f) l m nx pn))=(some (want f l m),true)):Le n σ (aA l m nx pn):=uy (Prod.mk.inj h).1 (Prod.mk.inj h).2
end
structure PP where
 p:Prop
 h:p
def oc{p:Prop}(h:p):PP:=⟨p,h⟩
def cP:Nat→Nat→List (Nat×Nat×PP)→List Prop
 | 0,_,_=>[]
 | k+1,i,[]=>True::cP k (i+1) []
 | k+1,i,(j,e,c)::r=>match Nat.blt i j,Nat.blt i e with
  | true,_=>True::cP k (i+1) ((j,e,c)::r)
  | false,true=>c.p::cP k (i+1) ((j,e,c)::r)
  | false,false=>c.p::cP k (i+1) r
theorem vu:∀(k i:Nat) (l:List (Nat×Nat×PP)),oU (cP k i l)
 | 0,_,_=>trivial
 | k+1,i,[]=>⟨trivial,vu k (i+1) []⟩
 | k+1,i,(j,e,c)::r=>by
  unfold cP;split
  ·exact⟨trivial,vu k (i+1) _⟩
  ·exact⟨c.h,vu k (i+1) _⟩
  ·exact⟨c.h,vu k (i+1) _⟩
def an{p:Prop}(h:p):PP:=oc (And.intro h trivial)
def ct:List Bool:=List.replicate 40 true
def a0:An:=⟨[],[]⟩
section
variable{P:Program}{fid:FuncId}{args:List ag}{hin:Qw}
def oP{r:ag}(_:Pure P fid args r)(fl:List Bool:=[])(cn:List Bool:=ct):wF:=⟨r,fl,false,cn,[],[],none⟩
def oO{r:ag}{hout:Qw}(_:hY P fid args hin r hout)(g:QV)(fl:List Bool:=[])(cn:List Bool:=ct):wF:=⟨r,fl,true,cn,g,hout,none⟩
def oD{x:Value}(_:jK P fid args hin x)(g:QV)(fl:List Bool:=[])(cn:List Bool:=ct):wF:=⟨.unk,fl,true,cn,g,[],some x⟩
end
theorem gg{n:NS}{σ:St}(e:List G)(f:QV){l:List (Nat×ag)}{m:Qw}{nx pn:Nat}(h:(goal e f l m σ,(σ.pn == pn && kG (GL f) l m nx pn))=(some (want f l m),true):=by kernel_rfl):Le n σ (aA l m nx pn):=gl e f h
theorem g2{α:Type}{p q:Prop}[Decidable p][Decidable q]{x:Option α}{r:α}(h:(if p then(if q then x else none)else none)=some r):p∧q∧x=some r:=⟨(aE h).1,aE (aE h).2⟩
theorem g3{α:Type}{p q s:Prop}[Decidable p][Decidable q][Decidable s]{x:Option α}{r:α}(h:(if p then(if q then(if s then x else none)else none)else none)=some r):p∧q∧s∧x=some r:=⟨(aE h).1,g2 (aE h).2⟩
theorem g4{α:Type}{p q s t:Prop}[Decidable p][Decidable q][Decidable s][Decidable t]{x:Option α}{r:α}(h:(if p then(if q then(if s then(if t then x else none)else none)else none)else none)=some r):p∧q∧s∧t∧x=some r:=⟨(aE h).1,g3 (aE h).2⟩
theorem aL{α:Type}{b:Bool}{x y:Option α}{r:α}(h:(if b=true then x else y)=some r):(b=true∧x=some r)∨(b=false∧y=some r):=by
 cases b with
 | true=>exact .inl ⟨rfl,h⟩
 | false=>exact .inr ⟨rfl,h⟩
section
variable{P:Program}{n:NS}{Bw:Nat→Prop}{w0:cw P}{σ σ1:St}{Q:Exit→St→Prop}{tb:bU}
def iA(P:Program)(tb:bU)(an:An)(n:NS)(ops:Array Oper)(σ:St):St :=
 match D7 P tb an n σ.nx ops ops.toList 0 σ.s σ.h with
 | some (s,h,_)=>⟨s,h,σ.nx+8*ops.size,σ.pn⟩
 | none=>σ
def iG(P:Program)(tb:bU)(an:An)(n:NS)(ops:Array Oper)(σ:St):Option (List Prop) :=
 match D7 P tb an n σ.nx ops ops.toList 0 σ.s σ.h with
 | some (_,_,c)=>some c
 | none=>none
def Au(P:Program)(tb:bU)(an:An)(n:NS)(ops:Array Oper)(σ:St):St :=
 match Bt P tb an n σ.nx ops ops.toList 0 σ.s σ.h with
 | some (s,h,_,_)=>⟨s,h,σ.nx+8*ops.size,σ.pn⟩
 | none=>σ
def AQ(P:Program)(tb:bU)(an:An)(n:NS)(ops:Array Oper)(σ:St):Option (List Prop) :=
 match Bt P tb an n σ.nx ops ops.toList 0 σ.s σ.h with
 | some (_,_,c,e)=>match EA ops (qn e) (qa e) (pD ops) ops.size 0 (Array.replicate ops.size false)with
  | true=>some c
  | false=>none
 | none=>none
def zT(P:Program)(tb:bU)(an:An)(n:NS)(ops:Array Oper)(r:Nat)(σ:St):Option (List Prop×Value) :=
 match oS P tb an n σ.nx ops r ops.toList 0 σ.s σ.h with
 | some (_,_,c,y)=>some (c,y)
 | none=>none
theorem ab{d:Code}(h:W P n Bw w0 d σ1 Q):∀σ',Le n σ' σ1→yg P n Bw w0 d Q .normal σ':=fun _ hl=>IB hl h
def Dz(e:List G)(σ:St):St :=
 match ph e σ with
 | some σ'=>σ'
 | none=>σ
theorem mi(j:List G){c:Code}(h:(ph j σ).isSome=true)(f:W P n Bw w0 c (Dz j σ) Q):W P n Bw w0 c σ Q:=by
 unfold Dz at f;split at f
 ·rename_i σ' e;exact IB (sM e) f
 ·rename_i e;rw[e]at h;cases h
def GZ:Qz→QJ
 | some (.nds _ _ e none)=>some e.length
 | _=>none
def JO(id i:Nat)(f:Bool)(σ:St):St :=
 match σ.h id with
 | some (.nds e j p none)=>⟨σ.s,bF (bF σ.h id (some (.nds e j p (some (i,f,σ.nx))))) σ.nx (some (wH j f (p.getD i Nd.z))),σ.nx+1,σ.pn⟩
 | _=>σ
theorem Ig{id i m:Nat}(f:Bool)(hi:i<m)(q:GZ (σ.h id)=some m):Le n σ (JO id i f σ):=fun P Bw w0 a w x=>by
 unfold GZ at q;split at q
 ·rename_i e L M p;cases q;obtain⟨ρ,φ,B,C,z⟩:=x.ex;have hn:ρ σ.nx=none:=by
   cases D:ρ σ.nx with
   | none=>rfl
   | some u=>have:=z _ _ D;omega
  obtain⟨v,_,E,I,J⟩:=B.JY f p hn hi;unfold JO;rw[p];refine⟨⟨_,_,E,C.mono I J,fun j u A=>?_⟩,x.pn⟩;by_cases e:j=σ.nx
  ·subst e;exact Nat.lt_succ_self _
  ·rw[aQ _ _ e]at A;exact Nat.lt_succ_of_lt (z _ _ A)
 ·cases q
theorem yp(id i:Nat)(f:Bool){c:Code}{m:Nat}(hi:i<m)(e:GZ (σ.h id)=some m)(j:W P n Bw w0 c (JO id i f σ) Q):W P n Bw w0 c σ Q:=IB (Ig f hi e) j
theorem Fs(e:cg P tb)(an:An){id:Nat}{ops:Array Oper}(p:List (Nat×Nat×PP))
  (h:iG P tb an n ops σ=some (cP ops.size 0 p)) (f:∀σ',Le n σ' (iA P tb an n ops σ)→Q .normal σ'):W P n Bw w0 (.region id ops false) σ Q:=by
 unfold iG at h;unfold iA at f;split at h
 ·rename_i s q c j;cases h;rw[j]at f;exact AG e an j (vu _ _ _) (f _ (Le.refl _))
 ·cases h
theorem Lj(e:cg P tb)(an:An){id:Nat}{ops:Array Oper}{d:Code}(f:List (Nat×Nat×PP))
  (h:iG P tb an n ops σ=some (cP ops.size 0 f)) (j:W P n Bw w0 d (iA P tb an n ops σ) Q):W P n Bw w0 (.seq (.region id ops false) d) σ Q :=
 af (Fs e an f h (ab j))
theorem KB(e:cg P tb)(p:P.follows .mixedOrders=true)(an:An){id:Nat}{ops:Array Oper}(q:List (Nat×Nat×PP))
  (h:AQ P tb an n ops σ=some (cP ops.size 0 q)) (f:∀σ',Le n σ' (Au P tb an n ops σ)→Q .normal σ'):W P n Bw w0 (.region id ops true) σ Q:=by
 unfold AQ at h;unfold Au at f;split at h
 ·rename_i s v c x j;split at h
  ·rename_i u;cases h;rw[j]at f;exact Js e p an j u (vu _ _ _) (f _ (Le.refl _))
  ·cases h
 ·cases h
theorem MD(e:cg P tb)(j:P.follows .mixedOrders=true)(an:An){id:Nat}{ops:Array Oper}{d:Code}(f:List (Nat×Nat×PP))
  (h:AQ P tb an n ops σ=some (cP ops.size 0 f)) (p:W P n Bw w0 d (Au P tb an n ops σ) Q):W P n Bw w0 (.seq (.region id ops true) d) σ Q :=
 af (KB e j an f h (ab p))
def cG:Nat→Nat→Prop→List Prop
 | 0,_,_=>[]
 | k+1,0,p=>p::Ts k []
 | k+1,i+1,p=>True::cG k i p
theorem I5:∀(k i:Nat) {p:Prop},p→oU (cG k i p)
 | 0,_,_,_=>trivial
 | k+1,0,_,h=>⟨h,tr k trivial⟩
 | k+1,i+1,_,h=>⟨trivial,I5 k i h⟩
theorem IG(f:cg P tb)(i:Nat){α:Type}{p:Prop}[Decidable p]{u:Option α}{r:α}(h:(if p then u else none)=some r){id:Nat}{ops:Array Oper}
  (hk:iG P tb a0 n ops σ=some (cG ops.size i p)) (e:u=some r→∀σ',Le n σ' (iA P tb a0 n ops σ)→Q .normal σ'):W P n Bw w0 (.region id ops false) σ Q:=by
 obtain⟨q,hu⟩:=aE h
 replace e:=e hu
 unfold iG at hk;unfold iA at e;split at hk
 ·rename_i s v c j;cases hk;rw[j]at e;exact AG f a0 j (I5 _ _ q) (e _ (Le.refl _))
 ·cases hk
theorem Ma(e:cg P tb)(i:Nat){α:Type}{p:Prop}[Decidable p]{u:Option α}{r:α}(h:(if p then u else none)=some r){id:Nat}{ops:Array Oper}{d:Code}
  (hk:iG P tb a0 n ops σ=some (cG ops.size i p)) (f:u=some r→W P n Bw w0 d (iA P tb a0 n ops σ) Q):W P n Bw w0 (.seq (.region id ops false) d) σ Q :=
 af (IG e i h hk fun hu=>ab (f hu))
theorem KD(e:cg P tb)(i:Nat){fid:FuncId}{args:List ag}{r:ag}(u:Pure P fid args r){id:Nat}{ops:Array Oper}
  (h:iG P tb ⟨[],[(i,oP u)]⟩ n ops σ=some (cP ops.size 0 [(i,i,oc u)])) (f:∀σ',Le n σ' (iA P tb ⟨[],[(i,oP u)]⟩ n ops σ)→Q .normal σ'):W P n Bw w0 (.region id ops false) σ Q:=Fs e _ _ h f
theorem L8(e:cg P tb)(i:Nat){fid:FuncId}{args:List ag}{r:ag}(u:Pure P fid args r){id:Nat}{ops:Array Oper}{d:Code}
  (h:iG P tb ⟨[],[(i,oP u)]⟩ n ops σ=some (cP ops.size 0 [(i,i,oc u)])) (f:W P n Bw w0 d (iA P tb ⟨[],[(i,oP u)]⟩ n ops σ) Q):W P n Bw w0 (.seq (.region id ops false) d) σ Q:=Lj e _ _ h f
theorem K5(e:cg P tb)(i:Nat)(g:QV){fid:FuncId}{args:List ag}{hin hout:Qw}{r:ag}(u:hY P fid args hin r hout){id:Nat}{ops:Array Oper}
  (h:iG P tb ⟨[],[(i,oO u g)]⟩ n ops σ=some (cP ops.size 0 [(i,i,oc u)])) (f:∀σ',Le n σ' (iA P tb ⟨[],[(i,oO u g)]⟩ n ops σ)→Q .normal σ'):W P n Bw w0 (.region id ops false) σ Q:=Fs e _ _ h f
theorem LS(e:cg P tb)(i:Nat)(g:QV){fid:FuncId}{args:List ag}{hin hout:Qw}{r:ag}(u:hY P fid args hin r hout){id:Nat}{ops:Array Oper}{d:Code}
  (h:iG P tb ⟨[],[(i,oO u g)]⟩ n ops σ=some (cP ops.size 0 [(i,i,oc u)])) (f:W P n Bw w0 d (iA P tb ⟨[],[(i,oO u g)]⟩ n ops σ) Q):W P n Bw w0 (.seq (.region id ops false) d) σ Q:=Lj e _ _ h f
theorem Mh(e:cg P tb){fid:FuncId}{args:List ag}{hin:Qw}{y:Value}(_:jK P fid args hin y)(an:An)(r:Nat){id:Nat}{ops:Array Oper}(f:List (Nat×Nat×PP))
  (h:zT P tb an n ops r σ=some (cP (r+1) 0 f,y)) (j:∀σ',Q (.panic [{ v:=y,recovered:=false }]) σ'):W P n Bw w0 (.region id ops false) σ Q:=by
 unfold zT at h;split at h
 ·rename_i s q c u p;cases h;exact tJ e an r p (vu _ _ _) (j _)
 ·cases h
theorem L6(e:cg P tb)(r:Nat)(g:QV){fid:FuncId}{args:List ag}{hin:Qw}{y:Value}(u:jK P fid args hin y){id:Nat}{ops:Array Oper}
  (h:zT P tb ⟨[],[(r,oD u g)]⟩ n ops r σ=some (cP (r+1) 0 [(r,r,oc u)],y)) (f:∀σ',Q (.panic [{ v:=y,recovered:=false }]) σ'):W P n Bw w0 (.region id ops false) σ Q:=Mh e u _ r _ h f
def Lh:ag→Option Bool
 | .p _ .bool b=>some b
 | _=>none
theorem vA{x:ag}{b:Bool}(h:Lh x=some b):∃β,x = .p β .bool b:=by
 unfold Lh at h;split at h
 ·rename_i β e;cases h;exact⟨β,rfl⟩
 ·cases h
theorem aC{b:Bool}{α:Type}{u v:Option α}{r:α}{c:Operand}{x y:Code}(h:(if b=true then u else v)=some r)
  (f:b=true→u=some r→W P n Bw w0 x σ Q) (j:b=false→v=some r→W P n Bw w0 y σ Q) (hc:Lh (ev σ.s c)=some b:=by kernel_rfl):W P n Bw w0 (.cond c x y) σ Q:=by
 obtain⟨β,e⟩:=vA hc;exact BS e (fun hb=>f hb (LR hb h)) (fun hb=>j hb (Jx hb h))
theorem zp{b:Bool}(hb:b=true){c:Operand}{x y:Code}(f:W P n Bw w0 x σ Q)(hc:Lh (ev σ.s c)=some b:=by kernel_rfl):W P n Bw w0 (.cond c x y) σ Q:=by
 obtain⟨β,e⟩:=vA hc;exact BS e (fun _=>f) (fun h=>by rw[hb]at h;cases h)
theorem Ic{b:Bool}(hb:b=false){c:Operand}{x y:Code}(f:W P n Bw w0 y σ Q)(hc:Lh (ev σ.s c)=some b:=by kernel_rfl):W P n Bw w0 (.cond c x y) σ Q:=by
 obtain⟨β,e⟩:=vA hc;exact BS e (fun h=>by rw[hb]at h;cases h) (fun _=>f)
theorem bn{α β:Type}{m:Option α}{k:α→Option β}{r:β}{c:Code}(h:m.bind k=some r)(f:α→St)
  (j:∀v,m=some v→W P n Bw w0 c σ (nV n f v)) (p:∀v,k v=some r→∀σ',Le n σ' (f v)→Q .normal σ'):W P n Bw w0 c σ Q:=by
 obtain⟨v,q,u⟩:=aj h;refine(j v q).mono fun e σ' x=>?_
 obtain⟨rfl,hl⟩:=x;exact p v u σ' hl
theorem CQ{α β:Type}{m:Option α}{k:α→Option β}{r:β}{c:Code}(h:m.bind k=some r)(F:α→Exit→St→Prop)
  (f:∀v,m=some v→W P n Bw w0 c σ (F v)) (j:∀v,k v=some r→∀e σ',F v e σ'→Q e σ'):W P n Bw w0 c σ Q:=by
 obtain⟨v,p,q⟩:=aj h;exact(f v p).mono (j v q)
theorem jT{S T β:Type}{j:S→Option (S⊕T)}{k:T→Option β}{r:β}{c:Code}{x:S}(h:(iter j x).bind k=some r)(f:S→St)(F:T→Exit→St→Prop)(hl:Le n σ (f x))
  (step:∀y o,j y=some o→W P n Bw w0 c (f y) (nr n f F o)) (p:∀v,k v=some r→∀e σ',F v e σ'→Q e σ'):W P n Bw w0 (.loop c) σ Q:=by
 obtain⟨v,q,u⟩:=aj h;exact(Jd f F q hl step).mono (p v u)
theorem cH{S T β:Type}{p:S→Option (S⊕T)}{k:T→Option β}{r:β}{c:Code}{x:S}(h:(iter p x).bind k=some r)(f:S→St)(j:Nat)(g:T→St)(hl:Le n σ (f x))
  (step:∀y o,p y=some o→W P n Bw w0 c (f y) (nr n f (eO n j g) o)) (q:∀v,k v=some r→∀σ',Le n σ' (g v)→Q (.exit j) σ'):W P n Bw w0 (.loop c) σ Q:=by
 refine jT h f (eO n j g) hl step fun v hk e σ' u=>?_
 obtain⟨rfl,hl⟩:=u;exact q v hk σ' hl
theorem eN{S:Type}{f:S→St}{v a:S}(h:some a=some v)(hl:Le n σ1 (f a)):∀σ',Le n σ' σ1→nV n f v .normal σ':=by cases h;exact cU hl
theorem eB{S T:Type}{f:S→St}{F:T→Exit→St→Prop}{a:S}{r:S⊕T}(h:some (Sum.inl a)=some r)(hl:Le n σ1 (f a)):∀σ',Le n σ' σ1→nr n f F r .normal σ':=by cases h;exact Jp hl
theorem eX{S T:Type}{f:S→St}{g:T→St}{a:T}{r:S⊕T}{j:Nat}(h:some (Sum.inr a)=some r)(hl:Le n σ1 (g a)):∀σ',Le n σ' σ1→nr n f (eO n j g) r (.exit j) σ':=by cases h;exact dI (bM hl)
end
end Go.Tv
namespace Go.Tv
open Go Go.RowKit
open Go.IntKind (u32 u64)
def pE(x:Int):Int:=if x == 0 then 32 else IW.getD (bits BinOp.and u32 x (-x % 4294967296)*125613361 % 4294967296 / 134217728).toNat 0
theorem F4(y:Int):(y % 4294967296 / 134217728).toNat<32:=by omega
theorem Fj:∀i,i<32→wrap64 (IW.getD i 0)=IW.getD i 0:=by decide +kernel
theorem Fg{x:Int}(h:(x == 0)=false):wrap64 (IW.getD (bits BinOp.and u32 x (-x % 4294967296)*125613361 % 4294967296 / 134217728).toNat 0)=pE x:=by
 rw[Fj _ (F4 _)];simp only[pE,h,Bool.false_eq_true,if_false]
theorem EU{x:Int}(h:(x == 0)=true):pE x=32:=by simp only[pE,h,if_true]
theorem Pure.Ld{P:Program}{f:FuncId}{fn:Func}(C:P.funcs[f]? = some fn)(q:(fn.name == "runtime.NumGoroutine")=false)(hb:fn.body.isNone=false){β:Bool}{x:Int}
  (h:∀w,sT P w→Calls P f #[.int .u32 x] w fun e w'=>e = .returned (.int .i64 (pE x))∧w'=w):Pure P f [.p β (.int .u32) x] (.p false (.int .i64) (pE x)):=by
 refine⟨⟨fn,C,q,hb⟩,fun Bw w B u D j=>?_⟩;match z:B.toList,j with
 | [v0],j =>
  have E:=bX j.1;subst E;have:B = #[.int .u32 x]:=Array.ext' z;subst this;refine(h w u).mono fun r w' ⟨I,J⟩=>⟨_,I,by subst J;exact(Kept.refl (kU u)).below,dH _ _ _⟩
end Go.Tv
namespace Go.Tv
open Go
open Go.IntKind (u32 u64)
def Ly(P:Program)(t:TypeId):Option (List ag):=((P.info? t).bind (·.zero)).map fun z=>z.cells.toList.map j7
def LP(P:Program)(t:TypeId)(sz e:Nat):Bool :=
 match P.info? t with
 | some i=>match i.zero with
  | some z=>i.size == sz && i.bytes == e && z.cells.size == sz && z.cells.toList.all (·.oneCell')
  | none=>false
 | none=>false
theorem KR{P:Program}{t:TypeId}{ti:TI}(f:Ly P t=some ti.z)(e:LP P t ti.size ti.bytes=true):
  ∃i z,P.info? t=some i∧i.zero=some z∧i.size=ti.size∧i.bytes=ti.bytes∧z.cells.toList.map j7=ti.z∧z.cells.size=ti.size∧∀c∈z.cells.toList,c.oneCell'=true:=by
 unfold LP at e;split at e
 ·rename_i i hi;split at e
  ·rename_i z hz;simp only[Bool.and_eq_true,beq_iff_eq,List.all_eq_true]at e;obtain⟨⟨⟨a,b⟩,c⟩,d⟩:=e;unfold Ly at f;rw[hi]at f;simp only[Option.bind,hz,Option.map,Option.some.injEq]at f;exact⟨i,z,hi,hz,a,b,f,c,d⟩
  ·cases e
 ·cases e
section
variable{P:Program}{n:NS}{Bw:Nat→Prop}{w0:cw P}{σ:St}{Q:Exit→St→Prop}{tb:bU}
theorem y6(d:Nat){w:World}{t f:TypeId}(h:P.underlying t=some (.slice f))(e:Option Addr)(l c:Nat):(Op.equalIn (d+1) t (.slice e l c) (.slice none 0 0)).run P w = .ok e.isNone w:=by
 cases e <;> simp[Op.equalIn,run_underlying h]
def rQ(P:Program)(n:NS)(Bw:Nat→Prop)(w0:cw P)(c:Code)(Q:Exit→St→Prop):Nat→Exit→St→Prop
 | 0,.normal,_=>False
 | k+1,.normal,σ=>W P n Bw w0 c σ (rQ P n Bw w0 c Q k)
 | _,e,σ=>Q e σ
theorem uA{c:Code}{k:Nat}{e:Exit}(f:e ≠ .normal):rQ P n Bw w0 c Q k e σ=Q e σ:=by
 cases e <;> first | exact absurd rfl f | (cases k <;> rfl)
theorem Fo(k:Nat){c:Code}(h:W P n Bw w0 c σ (rQ P n Bw w0 c Q k)):W P n Bw w0 (.loop c) σ Q:=fun a w j=>by
 refine wp_loop_rounds (k+1) ?_;have key:∀k σ,W P n Bw w0 c σ (rQ P n Bw w0 c Q k)→∀a w,R n Bw w0 σ a w→Code.rounds P c (fun e p q=>∃σ',R n Bw w0 σ' p q∧Q e σ') (k+1) a w:=by
  intro k;induction k with
  | zero =>
   intro σ h a w j;refine wp_mono (h a w j) fun e p q ⟨σ',u,f⟩=>?_
   cases e with
   | normal=>exact f.elim
   | _=>exact⟨σ',u,by rw[uA (by simp)]at f;exact f⟩
  | succ k v =>
   intro σ h a w j;refine wp_mono (h a w j) fun e p q ⟨σ',u,f⟩=>?_
   cases e with
   | normal=>exact v σ' f p q u
   | _=>exact⟨σ',u,by rw[uA (by simp)]at f;exact f⟩
 exact key k σ h a w j
theorem Gh{c:Code}{k:Nat}{σ1:St}(h:W P n Bw w0 c σ1 (rQ P n Bw w0 c Q k)):∀σ',Le n σ' σ1→rQ P n Bw w0 c Q (k+1) .normal σ':=fun _ hl=>IB hl h
theorem MQ{c:Code}{k j:Nat}{σ1:St}(h:∀σ',Le n σ' σ1→Q (.exit j) σ'):∀σ',Le n σ' σ1→rQ P n Bw w0 c Q k (.exit j) σ':=fun σ' hl=>by rw[uA (by simp)];exact h σ' hl
theorem CE{c:Code}{k:Nat}(h:Q .ret σ):rQ P n Bw w0 c Q k .ret σ:=by rw[uA (by simp)];exact h
theorem JI(z:cg P tb){id:Nat}{ops:Array Oper}{B o1:Oper}{d e:Nat}{t Y el:TypeId}{β:Bool}{A:Ty}{xs:List A.den}{c:Code}
  (C:ops = #[B,o1]) (hd:B.dst=some d) (Z:o1.dst=some e) (ho:o1.op = .binOp .eql t (.tmp d) (.const (.slice none 0 0)) Y) (hg:o1.guard=none) (D:DY n (some e)=true)
  (E:oo P tb a0 n σ.nx ops 0 B σ.s σ.h=some (.p β (.slice A) xs,[],True)) (hu:P.underlying t=some (.slice el))
  (hq:∀b,(b=true→xs=[])→W P n Bw w0 c ⟨ke (ke σ.s (some d) (.p β (.slice A) xs)) (some e) (.p false .bool b),σ.h,σ.nx+16,σ.pn⟩ Q):W P n Bw w0 (.seq (.region id ops false) c) σ Q:=by
 refine af fun a w M=>?_
 obtain⟨ρ,φ,q1,q2,q3⟩:=M.ex;refine wp_region ?_;rw[show ops.size=2 by rw[C];rfl,show List.range 2=[0,1]from rfl];rw[wpOps_cons];refine jR (done:=fun j=>j<0) z ⟨ρ,φ,q1,q2,fun id u hu=> .inl (q3 id u hu)⟩ (by rw[C];rfl) (Nat.lt_irrefl 0) E trivial fun a1 N hm=>?_
 rw[wpOps_cons];obtain⟨I,φ1,r1,O,r3⟩:=hm.ex;have J:=O.sl d;rw[hd,ke,aB]at J;simp only[V,ah]at J;obtain⟨-,f,l,X,q,⟨hl,-⟩,L⟩:=J;have hb:f.isNone=true→xs=[]:=fun hn=>by
  cases xs with
  | nil=>rfl
  | cons y ys =>obtain⟨b,e,-⟩:=L 0 (by simp);rw[e]at hn;cases hn
 unfold wpOp;rw[C];simp only[List.getElem?_toArray,List.getElem?_cons_succ,List.getElem?_cons_zero];rw[if_pos (by unfold Region.wanted;rw[hg])];refine .inl ?_;refine Good.aG (post:=fun v w'=>v = .bool f.isNone∧w'=N) (v:= .bool f.isNone) (w':=N) ?_ ⟨rfl,rfl⟩ _ _ ?_
 ·simp only[execOp,ho,Act.eval,←q];rw[Sem.run_bind,Sem.run_bind,bL (by intro cs e;cases e) (by intro e;cases e),Result.andThen_ok];rw[show binOp .eql t (.slice f l X) (.slice none 0 0)=(do pure (.bool (←Op.equal t (.slice f l X) (.slice none 0 0)))) by cases f <;> rfl];simp only[Op.equal,Op.maxDepth,Sem.run_bind,y6 9999 hu,Result.andThen_ok];rfl
 ·rintro v w' ⟨rfl,rfl⟩;refine⟨⟨ke (ke σ.s (some d) (.p β (.slice A) xs)) (some e) (.p false .bool f.isNone),σ.h,σ.nx+16,σ.pn⟩,⟨⟨I,φ1,r1,?_,fun id u hu=>?_⟩,M.pn⟩,hq _ hb⟩
  ·have:=O.JB (x:= .p false .bool f.isNone) (iV false f.isNone) D;rw[hd]at this;rw[Z];exact this
  ·rcases r3 id u hu with h1 | ⟨i,j,h1,h2,h3⟩ <;> simp only <;> omega
end
def vU(a:QJ):QJ:=a.map fun n=>n % 9223372036854775808
theorem HX(b:Nat):eG (b % 9223372036854775808)=vU (eG b):=by
 have f:FloatKind.f64.format.signWeight=9223372036854775808:=rfl;have e:(FloatKind.f64.decode (b % 9223372036854775808)).isNaN=(FloatKind.f64.decode b).isNaN:=by
  unfold FloatKind.decode Ieee.Format.read;rw[f];simp only[Nat.mod_mod];split
  ·rfl
  ·split
   ·rfl
   ·split <;> rfl
 unfold eG vU;rw[e];split <;> rfl
theorem GK(b:Nat):bitsOf .andNot .u64 (b:Int) 9223372036854775808=((b % 9223372036854775808:Nat):Int):=by
 have e:BitVec.ofInt 64 (b:Int)=BitVec.ofNat 64 b:=BitVec.ofInt_natCast ..;have f : ~~~(BitVec.ofInt 64 9223372036854775808)=BitVec.ofNat 64 (2 ^ 63 - 1):=by decide
 have j:(BitVec.ofNat 64 b &&& BitVec.ofNat 64 (2 ^ 63 - 1)).toNat=b % 9223372036854775808:=by rw[BitVec.toNat_and,BitVec.toNat_ofNat,BitVec.toNat_ofNat,Nat.mod_eq_of_lt (show 2 ^ 63 - 1<2 ^ 64 by decide),Nat.and_two_pow_sub_one_eq_mod];omega
 unfold bitsOf;show u64.wrap ((BitVec.ofInt 64 (b:Int) &&& ~~~(BitVec.ofInt 64 9223372036854775808)).toNat:Int)=_;rw[e,f,j];have:=Nat.mod_lt b (show 0<9223372036854775808 by decide);generalize b % 9223372036854775808=r at this;simp only[IntKind.wrap,IntKind.min,IntKind.max,IntKind.bits,IntKind.signed]
 first | omega | (simp;omega)
theorem Fx(b:Nat):(bits BinOp.andNot u64 (b:Int) 9223372036854775808).toNat=b % 9223372036854775808:=by
 rw[show bits BinOp.andNot u64 (b:Int) 9223372036854775808=bitsOf .andNot .u64 (b:Int) 9223372036854775808 from rfl,GK,Int.toNat_natCast]
theorem Pure.JT{P:Program}{f:FuncId}{fn:Func}(D:P.funcs[f]? = some fn)(q:(fn.name == "runtime.NumGoroutine")=false)(hb:fn.body.isNone=false){β:Bool}{a:QJ}
  (h:∀(b:Nat) w,Calls P f #[.float .f64 b] w fun e w'=>e = .returned (.float .f64 (b % 9223372036854775808))∧w'=w):Pure P f [.p β .flt a] (.p false .flt (vU a)):=by
 refine⟨⟨fn,D,q,hb⟩,fun Bw w C z E j=>?_⟩;match B:C.toList,j with
 | [v0],j =>
  have u:=j.1;simp only[V,ah]at u;obtain⟨-,m,u,I⟩:=u;subst u I;have:C = #[.float .f64 m]:=Array.ext' B;subst this;refine(h m w).mono fun r w' ⟨J,L⟩=>⟨_,J,by subst L;exact(Kept.refl (kU z)).below,?_⟩
  simp only[V,ah];exact⟨rfl,_,rfl,HX m⟩
end Go.Tv
