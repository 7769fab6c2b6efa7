import Derived.Test.YtobbjfkfmdiklaaGreatDoorTvSam
import Derived.KernelRfl
import Derived.WalkKit
import Derived.Lib.TrailingZeros
import Derived.LoopN
namespace Go.Tv
open Go
open Go.IntKind (u32 u64)
theorem tt:True:=trivial
def Ts:Nat→List Prop→List Prop
 | 0,l=>l
 | n+1,l=>True::Ts n l
theorem tr:∀(n:Nat) {l:List Prop},nV l→nV (Ts n l)
 | 0,_,h=>h
 | n+1,_,h=>⟨trivial,tr n h⟩
theorem sI{α:Type}{a b:α}(h:some a=some b):a=b:=Option.some.inj h
theorem nl{a b:Nat}(h:Nat.ble a b=true):a≤b:=Nat.le_of_ble_eq_true h
def pO{p:Prop}(_:p):Prop:=p
section
variable{P:Program}{n:NS}{Bw:Nat→Prop}{w0:cC P}{σ:St}{Q:Exit→St→Prop}{tb:bT}
theorem gl(j:List G)(f:QV){l:List (Nat×ag)}{m:Qw}{nx pn:Nat}(h:(goal j f l m σ,(σ.pn == pn && jg (Fy f) l m nx pn))=(some (want f l m),true)):Le n σ (aA l m nx pn):=qN (Prod.mk.inj h).1 (Prod.mk.inj h).2
theorem MT(j:bX P tb)(an:An){id:Nat}{ops:Array Oper}{d:Code}(q:List G)(f:QV)(l:List (Nat×ag))(m:Qw)(nx pn:Nat)(p:List Prop)
  (h:(Dx q f l m (σ.nx+8*ops.size) σ.pn (AX P tb an n σ.nx ops ops.toList 0 σ.s σ.h),(σ.pn == pn && jg (Fy f) l m nx pn))=(some (want f l m,p),true)) (hc:nV p)
  (u:W P n Bw w0 d (aA l m nx pn) Q):W P n Bw w0 (.seq (.region id ops false) d) σ Q:=af (Mu j an q f l m nx pn p (Prod.mk.inj h).1 (Prod.mk.inj h).2 hc (JA u))
end
structure PP where
 p:Prop
 h:p
def oc{p:Prop}(h:p):PP:=⟨p,h⟩
def cP:Nat→Nat→List (Nat×Nat×PP)→List Prop
 | 0,_,_=>[]
 | k+1,i,[]=>True::cP k (i+1) []
 | k+1,i,(j,e,c)::r=>match Nat.blt i j,Nat.blt i e with
  | true,_=>True::cP k (i+1) ((j,e,c)::r)
  | false,true=>c.p::cP k (i+1) ((j,e,c)::r)
  | false,false=>c.p::cP k (i+1) r
theorem xd:∀(k i:Nat) (l:List (Nat×Nat×PP)),nV (cP k i l)
 | 0,_,_=>trivial
 | k+1,i,[]=>⟨trivial,xd k (i+1) []⟩
 | k+1,i,(j,e,c)::r=>by
  unfold cP;split
  ·exact⟨trivial,xd k (i+1) _⟩
  ·exact⟨c.h,xd k (i+1) _⟩
  ·exact⟨c.h,xd k (i+1) _⟩
def an{p:Prop}(h:p):PP:=oc (And.intro h trivial)
def ct:List Bool:=List.replicate 40 true
def a0:An:=⟨[],[]⟩
section
variable{P:Program}{fid:FuncId}{args:List ag}{hin:Qw}
def oP{r:ag}(_:Pure P fid args r)(fl:List Bool:=[])(cn:List Bool:=ct):wh:=⟨r,fl,false,cn,[],[],none⟩
def oO{r:ag}{hout:Qw}(_:jD P fid args hin r hout)(g:QV)(fl:List Bool:=[])(cn:List Bool:=ct):wh:=⟨r,fl,true,cn,g,hout,none⟩
def oD{x:Value}(_:jV P fid args hin x)(g:QV)(fl:List Bool:=[])(cn:List Bool:=ct):wh:=⟨.unk,fl,true,cn,g,[],some x⟩
end
theorem gg{n:NS}{σ:St}(j:List G)(f:QV){l:List (Nat×ag)}{m:Qw}{nx pn:Nat}(h:(goal j f l m σ,(σ.pn == pn && jg (Fy f) l m nx pn))=(some (want f l m),true):=by kernel_rfl):Le n σ (aA l m nx pn):=gl j f h
theorem g2{α:Type}{p q:Prop}[Decidable p][Decidable q]{x:Option α}{r:α}(h:(if p then(if q then x else none)else none)=some r):p∧q∧x=some r:=⟨(aD h).1,aD (aD h).2⟩
theorem g3{α:Type}{p q s:Prop}[Decidable p][Decidable q][Decidable s]{x:Option α}{r:α}(h:(if p then(if q then(if s then x else none)else none)else none)=some r):p∧q∧s∧x=some r:=⟨(aD h).1,g2 (aD h).2⟩
theorem g4{α:Type}{p q s t:Prop}[Decidable p][Decidable q][Decidable s][Decidable t]{x:Option α}{r:α}(h:(if p then(if q then(if s then(if t then x else none)else none)else none)else none)=some r):p∧q∧s∧t∧x=some r:=⟨(aD h).1,g3 (aD h).2⟩
theorem aM{α:Type}{b:Bool}{x y:Option α}{r:α}(h:(if b=true then x else y)=some r):(b=true∧x=some r)∨(b=false∧y=some r):=by
 cases b with
 | true=>exact .inl ⟨rfl,h⟩
 | false=>exact .inr ⟨rfl,h⟩
section
variable{P:Program}{n:NS}{Bw:Nat→Prop}{w0:cC P}{σ σ1:St}{Q:Exit→St→Prop}{tb:bT}
def iP(P:Program)(tb:bT)(an:An)(n:NS)(ops:Array Oper)(σ:St):St :=
 match AX P tb an n σ.nx ops ops.toList 0 σ.s σ.h with
 | some (s,h,_)=>⟨s,h,σ.nx+8*ops.size,σ.pn⟩
 | none=>σ
def iL(P:Program)(tb:bT)(an:An)(n:NS)(ops:Array Oper)(σ:St):Option (List Prop) :=
 match AX P tb an n σ.nx ops ops.toList 0 σ.s σ.h with
 | some (_,_,c)=>some c
 | none=>none
def BI(P:Program)(tb:bT)(an:An)(n:NS)(ops:Array Oper)(σ:St):St :=
 match AD P tb an n σ.nx ops ops.toList 0 σ.s σ.h with
 | some (s,h,_,_)=>⟨s,h,σ.nx+8*ops.size,σ.pn⟩
 | none=>σ
def Cc(P:Program)(tb:bT)(an:An)(n:NS)(ops:Array Oper)(σ:St):Option (List Prop) :=
 match AD P tb an n σ.nx ops ops.toList 0 σ.s σ.h with
 | some (_,_,c,j)=>match FH ops (qu j) (qE j) (pP ops) ops.size 0 (Array.replicate ops.size false)with
  | true=>some c
  | false=>none
 | none=>none
def BX(P:Program)(tb:bT)(an:An)(n:NS)(ops:Array Oper)(r:Nat)(σ:St):Option (List Prop×Value) :=
 match py P tb an n σ.nx ops r ops.toList 0 σ.s σ.h with
 | some (_,_,c,y)=>some (c,y)
 | none=>none
theorem ab{d:Code}(h:W P n Bw w0 d σ1 Q):∀σ',Le n σ' σ1→w7 P n Bw w0 d Q .normal σ':=fun _ hl=>HM hl h
def EF(j:List G)(σ:St):St :=
 match oV j σ with
 | some σ'=>σ'
 | none=>σ
theorem lS(p:List G){c:Code}(h:(oV p σ).isSome=true)(j:W P n Bw w0 c (EF p σ) Q):W P n Bw w0 c σ Q:=by
 unfold EF at j;split at j
 ·rename_i σ' e;exact HM (sV e) j
 ·rename_i e;rw[e]at h;cases h
def HJ:Qz→QJ
 | some (.nds _ _ j none)=>some j.length
 | _=>none
def KC(id i:Nat)(f:Bool)(σ:St):St :=
 match σ.h id with
 | some (.nds e j p none)=>⟨σ.s,bF (bF σ.h id (some (.nds e j p (some (i,f,σ.nx))))) σ.nx (some (vp j f (p.getD i Nd.z))),σ.nx+1,σ.pn⟩
 | _=>σ
theorem JT{id i m:Nat}(f:Bool)(hi:i<m)(hm:HJ (σ.h id)=some m):Le n σ (KC id i f σ):=fun P Bw w0 a w q=>by
 unfold HJ at hm;split at hm
 ·rename_i e J L p;cases hm;obtain⟨ρ,φ,A,B,x⟩:=q.ex;have hn:ρ σ.nx=none:=by
   cases C:ρ σ.nx with
   | none=>rfl
   | some u=>have:=x _ _ C;omega
  obtain⟨v,_,D,E,I⟩:=A.Lg f p hn hi;unfold KC;rw[p];refine⟨⟨_,_,D,B.mono E I,fun j u z=>?_⟩,q.pn⟩;by_cases e:j=σ.nx
  ·subst e;exact Nat.lt_succ_self _
  ·rw[aR _ _ e]at z;exact Nat.lt_succ_of_lt (x _ _ z)
 ·cases hm
theorem yl(id i:Nat)(f:Bool){c:Code}{m:Nat}(hi:i<m)(hm:HJ (σ.h id)=some m)(j:W P n Bw w0 c (KC id i f σ) Q):W P n Bw w0 c σ Q:=HM (JT f hi hm) j
theorem Iz(j:bX P tb)(an:An){id:Nat}{ops:Array Oper}(u:List (Nat×Nat×PP))
  (h:iL P tb an n ops σ=some (cP ops.size 0 u)) (p:∀σ',Le n σ' (iP P tb an n ops σ)→Q .normal σ'):W P n Bw w0 (.region id ops false) σ Q:=by
 unfold iL at h;unfold iP at p;split at h
 ·rename_i s v c q;cases h;rw[q]at p;exact vS j an q (xd _ _ _) (p _ (Le.refl _))
 ·cases h
theorem MO(j:bX P tb)(an:An){id:Nat}{ops:Array Oper}{d:Code}(p:List (Nat×Nat×PP))
  (h:iL P tb an n ops σ=some (cP ops.size 0 p)) (q:W P n Bw w0 d (iP P tb an n ops σ) Q):W P n Bw w0 (.seq (.region id ops false) d) σ Q :=
 af (Iz j an p h (ab q))
theorem Mb(j:bX P tb)(hm:P.follows .mixedOrders=true)(an:An){id:Nat}{ops:Array Oper}(u:List (Nat×Nat×PP))
  (h:Cc P tb an n ops σ=some (cP ops.size 0 u)) (p:∀σ',Le n σ' (BI P tb an n ops σ)→Q .normal σ'):W P n Bw w0 (.region id ops true) σ Q:=by
 unfold Cc at h;unfold BI at p;split at h
 ·rename_i s x c z q;split at h
  ·rename_i v;cases h;rw[q]at p;exact Ln j hm an q v (xd _ _ _) (p _ (Le.refl _))
  ·cases h
 ·cases h
theorem Ou(j:bX P tb)(hm:P.follows .mixedOrders=true)(an:An){id:Nat}{ops:Array Oper}{d:Code}(p:List (Nat×Nat×PP))
  (h:Cc P tb an n ops σ=some (cP ops.size 0 p)) (q:W P n Bw w0 d (BI P tb an n ops σ) Q):W P n Bw w0 (.seq (.region id ops true) d) σ Q :=
 af (Mb j hm an p h (ab q))
def cG:Nat→Nat→Prop→List Prop
 | 0,_,_=>[]
 | k+1,0,p=>p::Ts k []
 | k+1,i+1,p=>True::cG k i p
theorem Kp:∀(k i:Nat) {p:Prop},p→nV (cG k i p)
 | 0,_,_,_=>trivial
 | k+1,0,_,h=>⟨h,tr k trivial⟩
 | k+1,i+1,_,h=>⟨trivial,Kp k i h⟩
theorem Kd(q:bX P tb)(i:Nat){α:Type}{p:Prop}[Decidable p]{u:Option α}{r:α}(h:(if p then u else none)=some r){id:Nat}{ops:Array Oper}
  (hk:iL P tb a0 n ops σ=some (cG ops.size i p)) (j:u=some r→∀σ',Le n σ' (iP P tb a0 n ops σ)→Q .normal σ'):W P n Bw w0 (.region id ops false) σ Q:=by
 obtain⟨hp,hu⟩:=aD h
 replace j:=j hu
 unfold iL at hk;unfold iP at j;split at hk
 ·rename_i s x c v;cases hk;rw[v]at j;exact vS q a0 v (Kp _ _ hp) (j _ (Le.refl _))
 ·cases hk
theorem M1(j:bX P tb)(i:Nat){α:Type}{p:Prop}[Decidable p]{u:Option α}{r:α}(h:(if p then u else none)=some r){id:Nat}{ops:Array Oper}{d:Code}
  (hk:iL P tb a0 n ops σ=some (cG ops.size i p)) (q:u=some r→W P n Bw w0 d (iP P tb a0 n ops σ) Q):W P n Bw w0 (.seq (.region id ops false) d) σ Q :=
 af (Kd j i h hk fun hu=>ab (q hu))
theorem MI(j:bX P tb)(i:Nat){fid:FuncId}{args:List ag}{r:ag}(u:Pure P fid args r){id:Nat}{ops:Array Oper}
  (h:iL P tb ⟨[],[(i,oP u)]⟩ n ops σ=some (cP ops.size 0 [(i,i,oc u)])) (p:∀σ',Le n σ' (iP P tb ⟨[],[(i,oP u)]⟩ n ops σ)→Q .normal σ'):W P n Bw w0 (.region id ops false) σ Q:=Iz j _ _ h p
theorem NG(j:bX P tb)(i:Nat){fid:FuncId}{args:List ag}{r:ag}(u:Pure P fid args r){id:Nat}{ops:Array Oper}{d:Code}
  (h:iL P tb ⟨[],[(i,oP u)]⟩ n ops σ=some (cP ops.size 0 [(i,i,oc u)])) (p:W P n Bw w0 d (iP P tb ⟨[],[(i,oP u)]⟩ n ops σ) Q):W P n Bw w0 (.seq (.region id ops false) d) σ Q:=MO j _ _ h p
theorem Mx(j:bX P tb)(i:Nat)(g:QV){fid:FuncId}{args:List ag}{hin hout:Qw}{r:ag}(u:jD P fid args hin r hout){id:Nat}{ops:Array Oper}
  (h:iL P tb ⟨[],[(i,oO u g)]⟩ n ops σ=some (cP ops.size 0 [(i,i,oc u)])) (p:∀σ',Le n σ' (iP P tb ⟨[],[(i,oO u g)]⟩ n ops σ)→Q .normal σ'):W P n Bw w0 (.region id ops false) σ Q:=Iz j _ _ h p
theorem Nv(j:bX P tb)(i:Nat)(g:QV){fid:FuncId}{args:List ag}{hin hout:Qw}{r:ag}(u:jD P fid args hin r hout){id:Nat}{ops:Array Oper}{d:Code}
  (h:iL P tb ⟨[],[(i,oO u g)]⟩ n ops σ=some (cP ops.size 0 [(i,i,oc u)])) (p:W P n Bw w0 d (iP P tb ⟨[],[(i,oO u g)]⟩ n ops σ) Q):W P n Bw w0 (.seq (.region id ops false) d) σ Q:=MO j _ _ h p
theorem NK(j:bX P tb){fid:FuncId}{args:List ag}{hin:Qw}{y:Value}(_:jV P fid args hin y)(an:An)(r:Nat){id:Nat}{ops:Array Oper}(p:List (Nat×Nat×PP))
  (h:BX P tb an n ops r σ=some (cP (r+1) 0 p,y)) (q:∀σ',Q (.panic [{ v:=y,recovered:=false }]) σ'):W P n Bw w0 (.region id ops false) σ Q:=by
 unfold BX at h;split at h
 ·rename_i s x c z u;cases h;exact tI j an r u (xd _ _ _) (q _)
 ·cases h
theorem Nl(j:bX P tb)(r:Nat)(g:QV){fid:FuncId}{args:List ag}{hin:Qw}{y:Value}(u:jV P fid args hin y){id:Nat}{ops:Array Oper}
  (h:BX P tb ⟨[],[(r,oD u g)]⟩ n ops r σ=some (cP (r+1) 0 [(r,r,oc u)],y)) (p:∀σ',Q (.panic [{ v:=y,recovered:=false }]) σ'):W P n Bw w0 (.region id ops false) σ Q:=NK j u _ r _ h p
def LS:ag→Option Bool
 | .p _ .bool b=>some b
 | _=>none
theorem vL{x:ag}{b:Bool}(h:LS x=some b):∃β,x = .p β .bool b:=by
 unfold LS at h;split at h
 ·rename_i β j;cases h;exact⟨β,rfl⟩
 ·cases h
theorem aC{b:Bool}{α:Type}{u v:Option α}{r:α}{c:Operand}{x y:Code}(h:(if b=true then u else v)=some r)
  (h1:b=true→u=some r→W P n Bw w0 x σ Q) (h2:b=false→v=some r→W P n Bw w0 y σ Q) (hc:LS (ev σ.s c)=some b:=by kernel_rfl):W P n Bw w0 (.cond c x y) σ Q:=by
 obtain⟨β,e⟩:=vL hc;exact Dw e (fun hb=>h1 hb (ND hb h)) (fun hb=>h2 hb (KH hb h))
theorem tF{b:Bool}(hb:b=true){c:Operand}{x y:Code}(h1:W P n Bw w0 x σ Q)(hc:LS (ev σ.s c)=some b:=by kernel_rfl):W P n Bw w0 (.cond c x y) σ Q:=by
 obtain⟨β,e⟩:=vL hc;exact Dw e (fun _=>h1) (fun h=>by rw[hb]at h;cases h)
theorem HF{b:Bool}(hb:b=false){c:Operand}{x y:Code}(h1:W P n Bw w0 y σ Q)(hc:LS (ev σ.s c)=some b:=by kernel_rfl):W P n Bw w0 (.cond c x y) σ Q:=by
 obtain⟨β,e⟩:=vL hc;exact Dw e (fun h=>by rw[hb]at h;cases h) (fun _=>h1)
theorem bz{α β:Type}{m:Option α}{k:α→Option β}{r:β}{c:Code}(h:m.bind k=some r)(f:α→St)
  (h1:∀v,m=some v→W P n Bw w0 c σ (n9 n f v)) (h2:∀v,k v=some r→∀σ',Le n σ' (f v)→Q .normal σ'):W P n Bw w0 c σ Q:=by
 obtain⟨v,j,p⟩:=aj h;refine(h1 v j).mono fun e σ' q=>?_
 obtain⟨rfl,hl⟩:=q;exact h2 v p σ' hl
theorem DJ{α β:Type}{m:Option α}{k:α→Option β}{r:β}{c:Code}(h:m.bind k=some r)(F:α→Exit→St→Prop)
  (h1:∀v,m=some v→W P n Bw w0 c σ (F v)) (h2:∀v,k v=some r→∀e σ',F v e σ'→Q e σ'):W P n Bw w0 c σ Q:=by
 obtain⟨v,j,p⟩:=aj h;exact(h1 v j).mono (h2 v p)
theorem kg{S T β:Type}{body:S→Option (S⊕T)}{k:T→Option β}{r:β}{c:Code}{x:S}(h:(iter body x).bind k=some r)(f:S→St)(F:T→Exit→St→Prop)(hl:Le n σ (f x))
  (step:∀y o,body y=some o→W P n Bw w0 c (f y) (nh n f F o)) (h2:∀v,k v=some r→∀e σ',F v e σ'→Q e σ'):W P n Bw w0 (.loop c) σ Q:=by
 obtain⟨v,j,p⟩:=aj h;exact(KF f F j hl step).mono (h2 v p)
theorem cM{S T β:Type}{body:S→Option (S⊕T)}{k:T→Option β}{r:β}{c:Code}{x:S}(h:(iter body x).bind k=some r)(f:S→St)(j:Nat)(g:T→St)(hl:Le n σ (f x))
  (step:∀y o,body y=some o→W P n Bw w0 c (f y) (nh n f (fj n j g) o)) (h2:∀v,k v=some r→∀σ',Le n σ' (g v)→Q (.exit j) σ'):W P n Bw w0 (.loop c) σ Q:=by
 refine kg h f (fj n j g) hl step fun v hk e σ' p=>?_
 obtain⟨rfl,hl⟩:=p;exact h2 v hk σ' hl
theorem eN{S:Type}{f:S→St}{v a:S}(h:some a=some v)(hl:Le n σ1 (f a)):∀σ',Le n σ' σ1→n9 n f v .normal σ':=by cases h;exact cV hl
theorem eB{S T:Type}{f:S→St}{F:T→Exit→St→Prop}{a:S}{r:S⊕T}(h:some (Sum.inl a)=some r)(hl:Le n σ1 (f a)):∀σ',Le n σ' σ1→nh n f F r .normal σ':=by cases h;exact K7 hl
theorem eX{S T:Type}{f:S→St}{g:T→St}{a:T}{r:S⊕T}{j:Nat}(h:some (Sum.inr a)=some r)(hl:Le n σ1 (g a)):∀σ',Le n σ' σ1→nh n f (fj n j g) r (.exit j) σ':=by cases h;exact dL (bS hl)
end
end Go.Tv
namespace Go.Tv
open Go Go.RowKit
open Go.IntKind (u32 u64)
def pU(x:Int):Int:=if x == 0 then 32 else Kg.getD (bits BinOp.and u32 x (-x % 4294967296)*125613361 % 4294967296 / 134217728).toNat 0
theorem Hq(y:Int):(y % 4294967296 / 134217728).toNat<32:=by omega
theorem H4:∀i,i<32→wrap64 (Kg.getD i 0)=Kg.getD i 0:=by decide +kernel
theorem G0{x:Int}(h:(x == 0)=false):wrap64 (Kg.getD (bits BinOp.and u32 x (-x % 4294967296)*125613361 % 4294967296 / 134217728).toNat 0)=pU x:=by
 rw[H4 _ (Hq _)];simp only[pU,h,Bool.false_eq_true,if_false]
theorem FF{x:Int}(h:(x == 0)=true):pU x=32:=by simp only[pU,h,if_true]
theorem Pure.MC{P:Program}{f:FuncId}{fn:Func}(hf:P.funcs[f]? = some fn)(hname:(fn.name == "runtime.NumGoroutine")=false)(hb:fn.body.isNone=false){β:Bool}{x:Int}
  (h:∀w,tM P w→Calls P f #[.int .u32 x] w fun e w'=>e = .returned (.int .i64 (pU x))∧w'=w):Pure P f [.p β (.int .u32) x] (.p false (.int .i64) (pU x)):=by
 refine⟨⟨fn,hf,hname,hb⟩,fun Bw w z q B j=>?_⟩;match u:z.toList,j with
 | [v0],j =>
  have C:=bQ j.1;subst C;have:z = #[.int .u32 x]:=Array.ext' u;subst this;refine(h w q).mono fun r w' ⟨h1,h2⟩=>⟨_,h1,by subst h2;exact(Kept.refl (jn q)).below,dF _ _ _⟩
end Go.Tv
namespace Go.Tv
open Go
open Go.IntKind (u32 u64)
def Nu(P:Program)(t:TypeId):Option (List ag):=((P.info? t).bind (·.zero)).map fun z=>z.cells.toList.map kb
def M4(P:Program)(t:TypeId)(sz Mq:Nat):Bool :=
 match P.info? t with
 | some i=>match i.zero with
  | some z=>i.size == sz && i.bytes == Mq && z.cells.size == sz && z.cells.toList.all (·.oneCell')
  | none=>false
 | none=>false
theorem L8{P:Program}{t:TypeId}{ti:TI}(h1:Nu P t=some ti.z)(h2:M4 P t ti.size ti.bytes=true):
  ∃i z,P.info? t=some i∧i.zero=some z∧i.size=ti.size∧i.bytes=ti.bytes∧z.cells.toList.map kb=ti.z∧z.cells.size=ti.size∧∀c∈z.cells.toList,c.oneCell'=true:=by
 unfold M4 at h2;split at h2
 ·rename_i i hi;split at h2
  ·rename_i z hz;simp only[Bool.and_eq_true,beq_iff_eq,List.all_eq_true]at h2;obtain⟨⟨⟨a,b⟩,c⟩,d⟩:=h2;unfold Nu at h1;rw[hi]at h1;simp only[Option.bind,hz,Option.map,Option.some.injEq]at h1;exact⟨i,z,hi,hz,a,b,h1,c,d⟩
  ·cases h2
 ·cases h2
section
variable{P:Program}{n:NS}{Bw:Nat→Prop}{w0:cC P}{σ:St}{Q:Exit→St→Prop}{tb:bT}
theorem zx(d:Nat){w:World}{t p:TypeId}(h:P.underlying t=some (.slice p))(j:Option Addr)(l c:Nat):(Op.equalIn (d+1) t (.slice j l c) (.slice none 0 0)).run P w = .ok j.isNone w:=by
 cases j <;> simp[Op.equalIn,run_underlying h]
def rQ(P:Program)(n:NS)(Bw:Nat→Prop)(w0:cC P)(c:Code)(Q:Exit→St→Prop):Nat→Exit→St→Prop
 | 0,.normal,_=>False
 | k+1,.normal,σ=>W P n Bw w0 c σ (rQ P n Bw w0 c Q k)
 | _,e,σ=>Q e σ
theorem uT{c:Code}{k:Nat}{e:Exit}(j:e ≠ .normal):rQ P n Bw w0 c Q k e σ=Q e σ:=by
 cases e <;> first | exact absurd rfl j | (cases k <;> rfl)
theorem Be(k:Nat){c:Code}(h:W P n Bw w0 c σ (rQ P n Bw w0 c Q k)):W P n Bw w0 (.loop c) σ Q:=fun a w j=>by
 refine wp_loop_rounds (k+1) ?_;have key:∀k σ,W P n Bw w0 c σ (rQ P n Bw w0 c Q k)→∀a w,R n Bw w0 σ a w→Code.rounds P c (fun e p q=>∃σ',R n Bw w0 σ' p q∧Q e σ') (k+1) a w:=by
  intro k;induction k with
  | zero =>
   intro σ h a w j;refine wp_mono (h a w j) fun e p q ⟨σ',h1,h2⟩=>?_
   cases e with
   | normal=>exact h2.elim
   | _=>exact⟨σ',h1,by rw[uT (by simp)]at h2;exact h2⟩
  | succ k u =>
   intro σ h a w j;refine wp_mono (h a w j) fun e p q ⟨σ',h1,h2⟩=>?_
   cases e with
   | normal=>exact u σ' h2 p q h1
   | _=>exact⟨σ',h1,by rw[uT (by simp)]at h2;exact h2⟩
 exact key k σ h a w j
theorem vX{c:Code}{k:Nat}{σ1:St}(h:W P n Bw w0 c σ1 (rQ P n Bw w0 c Q k)):∀σ',Le n σ' σ1→rQ P n Bw w0 c Q (k+1) .normal σ':=fun _ hl=>HM hl h
theorem NV{c:Code}{k j:Nat}{σ1:St}(h:∀σ',Le n σ' σ1→Q (.exit j) σ'):∀σ',Le n σ' σ1→rQ P n Bw w0 c Q k (.exit j) σ':=fun σ' hl=>by rw[uT (by simp)];exact h σ' hl
theorem qC{c:Code}{k:Nat}(h:Q .ret σ):rQ P n Bw w0 c Q k .ret σ:=by rw[uT (by simp)];exact h
theorem KX(B:bX P tb){id:Nat}{ops:Array Oper}{C o1:Oper}{d e:Nat}{t Z el:TypeId}{β:Bool}{A:Ty}{xs:List A.den}{c:Code}
  (D:ops = #[C,o1]) (hd:C.dst=some d) (he:o1.dst=some e) (ho:o1.op = .binOp .eql t (.tmp d) (.const (.slice none 0 0)) Z) (hg:o1.guard=none) (E:EG n (some e)=true)
  (I:oS P tb a0 n σ.nx ops 0 C σ.s σ.h=some (.p β (.slice A) xs,[],True)) (hu:P.underlying t=some (.slice el))
  (hq:∀b,(b=true→xs=[])→W P n Bw w0 c ⟨kh (kh σ.s (some d) (.p β (.slice A) xs)) (some e) (.p false .bool b),σ.h,σ.nx+16,σ.pn⟩ Q):W P n Bw w0 (.seq (.region id ops false) c) σ Q:=by
 refine af fun a w N=>?_
 obtain⟨ρ,φ,q1,q2,q3⟩:=N.ex;refine wp_region ?_;rw[show ops.size=2 by rw[D];rfl,show List.range 2=[0,1]from rfl];rw[wpOps_cons];refine j3 (done:=fun j=>j<0) B ⟨ρ,φ,q1,q2,fun id u hu=> .inl (q3 id u hu)⟩ (by rw[D];rfl) (Nat.lt_irrefl 0) I trivial fun a1 O hm=>?_
 rw[wpOps_cons];obtain⟨J,φ1,r1,X,r3⟩:=hm.ex;have L:=X.sl d;rw[hd,kh,aB]at L;simp only[V,ai]at L;obtain⟨-,q,l,Y,z,⟨hl,-⟩,M⟩:=L;have hb:q.isNone=true→xs=[]:=fun hn=>by
  cases xs with
  | nil=>rfl
  | cons y ys =>obtain⟨b,e,-⟩:=M 0 (by simp);rw[e]at hn;cases hn
 unfold wpOp;rw[D];simp only[List.getElem?_toArray,List.getElem?_cons_succ,List.getElem?_cons_zero];rw[if_pos (by unfold Region.wanted;rw[hg])];refine .inl ?_;refine Good.aG (post:=fun v w'=>v = .bool q.isNone∧w'=O) (v:= .bool q.isNone) (w':=O) ?_ ⟨rfl,rfl⟩ _ _ ?_
 ·simp only[execOp,ho,Act.eval,←z];rw[Sem.run_bind,Sem.run_bind,bL (by intro cs e;cases e) (by intro e;cases e),Result.andThen_ok];rw[show binOp .eql t (.slice q l Y) (.slice none 0 0)=(do pure (.bool (←Op.equal t (.slice q l Y) (.slice none 0 0)))) by cases q <;> rfl];simp only[Op.equal,Op.maxDepth,Sem.run_bind,zx 9999 hu,Result.andThen_ok];rfl
 ·rintro v w' ⟨rfl,rfl⟩;refine⟨⟨kh (kh σ.s (some d) (.p β (.slice A) xs)) (some e) (.p false .bool q.isNone),σ.h,σ.nx+16,σ.pn⟩,⟨⟨J,φ1,r1,?_,fun id u hu=>?_⟩,N.pn⟩,hq _ hb⟩
  ·have:=X.Kx (x:= .p false .bool q.isNone) (iY false q.isNone) E;rw[hd]at this;rw[he];exact this
  ·rcases r3 id u hu with h1 | ⟨i,j,h1,h2,h3⟩ <;> simp only <;> omega
end
def vg(a:QJ):QJ:=a.map fun n=>n % 9223372036854775808
theorem JL(b:Nat):cj (b % 9223372036854775808)=vg (cj b):=by
 have j:FloatKind.f64.format.signWeight=9223372036854775808:=rfl;have e:(FloatKind.f64.decode (b % 9223372036854775808)).isNaN=(FloatKind.f64.decode b).isNaN:=by
  unfold FloatKind.decode Ieee.Format.read;rw[j];simp only[Nat.mod_mod];split
  ·rfl
  ·split
   ·rfl
   ·split <;> rfl
 unfold cj vg;rw[e];split <;> rfl
theorem G4(b:Nat):bitsOf .andNot .u64 (b:Int) 9223372036854775808=((b % 9223372036854775808:Nat):Int):=by
 have h1:BitVec.ofInt 64 (b:Int)=BitVec.ofNat 64 b:=BitVec.ofInt_natCast ..;have h2 : ~~~(BitVec.ofInt 64 9223372036854775808)=BitVec.ofNat 64 (2 ^ 63 - 1):=by decide
 have j:(BitVec.ofNat 64 b &&& BitVec.ofNat 64 (2 ^ 63 - 1)).toNat=b % 9223372036854775808:=by rw[BitVec.toNat_and,BitVec.toNat_ofNat,BitVec.toNat_ofNat,Nat.mod_eq_of_lt (show 2 ^ 63 - 1<2 ^ 64 by decide),Nat.and_two_pow_sub_one_eq_mod];omega
 unfold bitsOf;show u64.wrap ((BitVec.ofInt 64 (b:Int) &&& ~~~(BitVec.ofInt 64 9223372036854775808)).toNat:Int)=_;rw[h1,h2,j];have:=Nat.mod_lt b (show 0<9223372036854775808 by decide);generalize b % 9223372036854775808=r at this;simp only[IntKind.wrap,IntKind.min,IntKind.max,IntKind.bits,IntKind.signed]
 first | omega | (simp;omega)
theorem H6(b:Nat):(bits BinOp.andNot u64 (b:Int) 9223372036854775808).toNat=b % 9223372036854775808:=by
 rw[show bits BinOp.andNot u64 (b:Int) 9223372036854775808=bitsOf .andNot .u64 (b:Int) 9223372036854775808 from rfl,G4,Int.toNat_natCast]
theorem Pure.Ly{P:Program}{f:FuncId}{fn:Func}(hf:P.funcs[f]? = some fn)(hname:(fn.name == "runtime.NumGoroutine")=false)(hb:fn.body.isNone=false){β:Bool}{a:QJ}
  (h:∀(b:Nat) w,Calls P f #[.float .f64 b] w fun e w'=>e = .returned (.float .f64 (b % 9223372036854775808))∧w'=w):Pure P f [.p β .flt a] (.p false .flt (vg a)):=by
 refine⟨⟨fn,hf,hname,hb⟩,fun Bw w B u C j=>?_⟩;match z:B.toList,j with
 | [v0],j =>
  have q:=j.1;simp only[V,ai]at q;obtain⟨-,m,q,D⟩:=q;subst q D;have:B = #[.float .f64 m]:=Array.ext' z;subst this;refine(h m w).mono fun r w' ⟨h1,h2⟩=>⟨_,h1,by subst h2;exact(Kept.refl (jn u)).below,?_⟩
  simp only[V,ai];exact⟨rfl,_,rfl,JL m⟩
end Go.Tv
