import Derived.Test.YtmcemnfjddoejaaGreatDoorTvSam
import Derived.KernelRfl
import Derived.WalkKit
import Derived.Lib.TrailingZeros
import Derived.LoopN
namespace Go.Tv
open Go
open Go.IntKind (u32 u64)
theorem tt:True:=trivial
def Ts:Nat→List Prop→List Prop
 | 0,l=>l
 | n+1,l=>True::Ts n l
theorem tr:∀(n:Nat) {l:List Prop},pz l→pz (Ts n l)
 | 0,_,h=>h
 | n+1,_,h=>⟨trivial,tr n h⟩
theorem sI{α:Type}{a b:α}(h:some a=some b):a=b:=Option.some.inj h
theorem nl{a b:Nat}(h:Nat.ble a b=true):a≤b:=Nat.le_of_ble_eq_true h
def pO{p:Prop}(_:p):Prop:=p
section
variable{P:Program}{n:NS}{Bw:Nat→Prop}{w0:cu P}{σ:St}{Q:Exit→St→Prop}{tb:bP}
theorem gl(c:List G)(f:QV){l:List (Nat×ag)}{m:Qw}{nx pn:Nat}(h:(goal c f l m σ,(σ.pn == pn && kK (HW f) l m nx pn))=(some (want f l m),true)):Le n σ (aA l m nx pn):=wu (Prod.mk.inj h).1 (Prod.mk.inj h).2
end
structure PP where
 p:Prop
 h:p
def oc{p:Prop}(h:p):PP:=⟨p,h⟩
def cP:Nat→Nat→List (Nat×Nat×PP)→List Prop
 | 0,_,_=>[]
 | k+1,i,[]=>True::cP k (i+1) []
 | k+1,i,(j,e,c)::r=>match Nat.blt i j,Nat.blt i e with
  | true,_=>True::cP k (i+1) ((j,e,c)::r)
  | false,true=>c.p::cP k (i+1) ((j,e,c)::r)
  | false,false=>c.p::cP k (i+1) r
theorem xa:∀(k i:Nat) (l:List (Nat×Nat×PP)),pz (cP k i l)
 | 0,_,_=>trivial
 | k+1,i,[]=>⟨trivial,xa k (i+1) []⟩
 | k+1,i,(j,e,c)::r=>by
  unfold cP;split
  ·exact⟨trivial,xa k (i+1) _⟩
  ·exact⟨c.h,xa k (i+1) _⟩
  ·exact⟨c.h,xa k (i+1) _⟩
def an{p:Prop}(h:p):PP:=oc (And.intro h trivial)
def ct:List Bool:=List.replicate 40 true
def a0:An:=⟨[],[]⟩
section
variable{P:Program}{fid:FuncId}{args:List ag}{hin:Qw}
def oP{r:ag}(_:Pure P fid args r)(fl:List Bool:=[])(cn:List Bool:=ct):xQ:=⟨r,fl,false,cn,[],[],none⟩
def oO{r:ag}{hout:Qw}(_:fP P fid args hin r hout)(g:QV)(fl:List Bool:=[])(cn:List Bool:=ct):xQ:=⟨r,fl,true,cn,g,hout,none⟩
def oD{x:Value}(_:j7 P fid args hin x)(g:QV)(fl:List Bool:=[])(cn:List Bool:=ct):xQ:=⟨.unk,fl,true,cn,g,[],some x⟩
end
theorem gg{n:NS}{σ:St}(c:List G)(f:QV){l:List (Nat×ag)}{m:Qw}{nx pn:Nat}(h:(goal c f l m σ,(σ.pn == pn && kK (HW f) l m nx pn))=(some (want f l m),true):=by kernel_rfl):Le n σ (aA l m nx pn):=gl c f h
theorem g2{α:Type}{p q:Prop}[Decidable p][Decidable q]{x:Option α}{r:α}(h:(if p then(if q then x else none)else none)=some r):p∧q∧x=some r:=⟨(aE h).1,aE (aE h).2⟩
theorem g3{α:Type}{p q s:Prop}[Decidable p][Decidable q][Decidable s]{x:Option α}{r:α}(h:(if p then(if q then(if s then x else none)else none)else none)=some r):p∧q∧s∧x=some r:=⟨(aE h).1,g2 (aE h).2⟩
theorem g4{α:Type}{p q s t:Prop}[Decidable p][Decidable q][Decidable s][Decidable t]{x:Option α}{r:α}(h:(if p then(if q then(if s then(if t then x else none)else none)else none)else none)=some r):p∧q∧s∧t∧x=some r:=⟨(aE h).1,g3 (aE h).2⟩
theorem aI{α:Type}{b:Bool}{x y:Option α}{r:α}(h:(if b=true then x else y)=some r):(b=true∧x=some r)∨(b=false∧y=some r):=by
 cases b with
 | true=>exact .inl ⟨rfl,h⟩
 | false=>exact .inr ⟨rfl,h⟩
section
variable{P:Program}{n:NS}{Bw:Nat→Prop}{w0:cu P}{σ σ1:St}{Q:Exit→St→Prop}{tb:bP}
def iN(P:Program)(tb:bP)(an:An)(n:NS)(ops:Array Oper)(σ:St):St :=
 match GZ P tb an n σ.nx ops ops.toList 0 σ.s σ.h with
 | some (s,h,_)=>⟨s,h,σ.nx+8*ops.size,σ.pn⟩
 | none=>σ
def iL(P:Program)(tb:bP)(an:An)(n:NS)(ops:Array Oper)(σ:St):Option (List Prop) :=
 match GZ P tb an n σ.nx ops ops.toList 0 σ.s σ.h with
 | some (_,_,c)=>some c
 | none=>none
def Cr(P:Program)(tb:bP)(an:An)(n:NS)(ops:Array Oper)(σ:St):St :=
 match Dz P tb an n σ.nx ops ops.toList 0 σ.s σ.h with
 | some (s,h,_,_)=>⟨s,h,σ.nx+8*ops.size,σ.pn⟩
 | none=>σ
def CK(P:Program)(tb:bP)(an:An)(n:NS)(ops:Array Oper)(σ:St):Option (List Prop) :=
 match Dz P tb an n σ.nx ops ops.toList 0 σ.s σ.h with
 | some (_,_,c,e)=>match Hm ops (rj e) (rS e) (qv ops) ops.size 0 (Array.replicate ops.size false)with
  | true=>some c
  | false=>none
 | none=>none
def De(P:Program)(tb:bP)(an:An)(n:NS)(ops:Array Oper)(r:Nat)(σ:St):Option (List Prop×Value) :=
 match pE P tb an n σ.nx ops r ops.toList 0 σ.s σ.h with
 | some (_,_,c,y)=>some (c,y)
 | none=>none
theorem ab{d:Code}(h:W P n Bw w0 d σ1 Q):∀σ',Le n σ' σ1→zx P n Bw w0 d Q .normal σ':=fun _ hl=>JX hl h
def FM(c:List G)(σ:St):St :=
 match qh c σ with
 | some σ'=>σ'
 | none=>σ
theorem kr(j:List G){c:Code}(h:(qh j σ).isSome=true)(f:W P n Bw w0 c (FM j σ) Q):W P n Bw w0 c σ Q:=by
 unfold FM at f;split at f
 ·rename_i σ' e;exact JX (uf e) f
 ·rename_i e;rw[e]at h;cases h
def I0:Qz→QJ
 | some (.nds _ _ c none)=>some c.length
 | _=>none
def Lv(id i:Nat)(f:Bool)(σ:St):St :=
 match σ.h id with
 | some (.nds e c j none)=>⟨σ.s,bq (bq σ.h id (some (.nds e c j (some (i,f,σ.nx))))) σ.nx (some (yz c f (j.getD i Nd.z))),σ.nx+1,σ.pn⟩
 | _=>σ
theorem J1{id i m:Nat}(f:Bool)(hi:i<m)(p:I0 (σ.h id)=some m):Le n σ (Lv id i f σ):=fun P Bw w0 a w q=>by
 unfold I0 at p;split at p
 ·rename_i e J L c;cases p;obtain⟨ρ,φ,A,B,x⟩:=q.ex;have hn:ρ σ.nx=none:=by
   cases C:ρ σ.nx with
   | none=>rfl
   | some u=>have:=x _ _ C;omega
  obtain⟨v,_,D,E,I⟩:=A.LR f c hn hi;unfold Lv;rw[c];refine⟨⟨_,_,D,B.mono E I,fun j u z=>?_⟩,q.pn⟩;by_cases e:j=σ.nx
  ·subst e;exact Nat.lt_succ_self _
  ·rw[aD _ _ e]at z;exact Nat.lt_succ_of_lt (x _ _ z)
 ·cases p
theorem zF(id i:Nat)(f:Bool){c:Code}{m:Nat}(hi:i<m)(e:I0 (σ.h id)=some m)(j:W P n Bw w0 c (Lv id i f σ) Q):W P n Bw w0 c σ Q:=JX (J1 f hi e) j
theorem IC(e:bV P tb)(an:An){id:Nat}{ops:Array Oper}(p:List (Nat×Nat×PP))
  (h:iL P tb an n ops σ=some (cP ops.size 0 p)) (f:∀σ',Le n σ' (iN P tb an n ops σ)→Q .normal σ'):W P n Bw w0 (.region id ops false) σ Q:=by
 unfold iL at h;unfold iN at f;split at h
 ·rename_i s q c j;cases h;rw[j]at f;exact Dr e an j (xa _ _ _) (f _ (Le.refl _))
 ·cases h
theorem NP(c:bV P tb)(an:An){id:Nat}{ops:Array Oper}{d:Code}(e:List (Nat×Nat×PP))
  (h:iL P tb an n ops σ=some (cP ops.size 0 e)) (f:W P n Bw w0 d (iN P tb an n ops σ) Q):W P n Bw w0 (.seq (.region id ops false) d) σ Q :=
 af (IC c an e h (ab f))
theorem Nu(e:bV P tb)(p:P.follows .mixedOrders=true)(an:An){id:Nat}{ops:Array Oper}(q:List (Nat×Nat×PP))
  (h:CK P tb an n ops σ=some (cP ops.size 0 q)) (f:∀σ',Le n σ' (Cr P tb an n ops σ)→Q .normal σ'):W P n Bw w0 (.region id ops true) σ Q:=by
 unfold CK at h;unfold Cr at f;split at h
 ·rename_i s v c x j;split at h
  ·rename_i u;cases h;rw[j]at f;exact L1 e p an j u (xa _ _ _) (f _ (Le.refl _))
  ·cases h
 ·cases h
theorem Pj(c:bV P tb)(f:P.follows .mixedOrders=true)(an:An){id:Nat}{ops:Array Oper}{d:Code}(e:List (Nat×Nat×PP))
  (h:CK P tb an n ops σ=some (cP ops.size 0 e)) (j:W P n Bw w0 d (Cr P tb an n ops σ) Q):W P n Bw w0 (.seq (.region id ops true) d) σ Q :=
 af (Nu c f an e h (ab j))
def cG:Nat→Nat→Prop→List Prop
 | 0,_,_=>[]
 | k+1,0,p=>p::Ts k []
 | k+1,i+1,p=>True::cG k i p
theorem KX:∀(k i:Nat) {p:Prop},p→pz (cG k i p)
 | 0,_,_,_=>trivial
 | k+1,0,_,h=>⟨h,tr k trivial⟩
 | k+1,i+1,_,h=>⟨trivial,KX k i h⟩
theorem KS(f:bV P tb)(i:Nat){α:Type}{p:Prop}[Decidable p]{u:Option α}{r:α}(h:(if p then u else none)=some r){id:Nat}{ops:Array Oper}
  (hk:iL P tb a0 n ops σ=some (cG ops.size i p)) (e:u=some r→∀σ',Le n σ' (iN P tb a0 n ops σ)→Q .normal σ'):W P n Bw w0 (.region id ops false) σ Q:=by
 obtain⟨q,hu⟩:=aE h
 replace e:=e hu
 unfold iL at hk;unfold iN at e;split at hk
 ·rename_i s v c j;cases hk;rw[j]at e;exact Dr f a0 j (KX _ _ q) (e _ (Le.refl _))
 ·cases hk
theorem Oj(c:bV P tb)(i:Nat){α:Type}{p:Prop}[Decidable p]{u:Option α}{r:α}(h:(if p then u else none)=some r){id:Nat}{ops:Array Oper}{d:Code}
  (hk:iL P tb a0 n ops σ=some (cG ops.size i p)) (e:u=some r→W P n Bw w0 d (iN P tb a0 n ops σ) Q):W P n Bw w0 (.seq (.region id ops false) d) σ Q :=
 af (KS c i h hk fun hu=>ab (e hu))
theorem MQ(c:bV P tb)(i:Nat){fid:FuncId}{args:List ag}{r:ag}(u:Pure P fid args r){id:Nat}{ops:Array Oper}
  (h:iL P tb ⟨[],[(i,oP u)]⟩ n ops σ=some (cP ops.size 0 [(i,i,oc u)])) (e:∀σ',Le n σ' (iN P tb ⟨[],[(i,oP u)]⟩ n ops σ)→Q .normal σ'):W P n Bw w0 (.region id ops false) σ Q:=IC c _ _ h e
theorem Oc(c:bV P tb)(i:Nat){fid:FuncId}{args:List ag}{r:ag}(u:Pure P fid args r){id:Nat}{ops:Array Oper}{d:Code}
  (h:iL P tb ⟨[],[(i,oP u)]⟩ n ops σ=some (cP ops.size 0 [(i,i,oc u)])) (e:W P n Bw w0 d (iN P tb ⟨[],[(i,oP u)]⟩ n ops σ) Q):W P n Bw w0 (.seq (.region id ops false) d) σ Q:=NP c _ _ h e
theorem MU(c:bV P tb)(i:Nat)(g:QV){fid:FuncId}{args:List ag}{hin hout:Qw}{r:ag}(u:fP P fid args hin r hout){id:Nat}{ops:Array Oper}
  (h:iL P tb ⟨[],[(i,oO u g)]⟩ n ops σ=some (cP ops.size 0 [(i,i,oc u)])) (e:∀σ',Le n σ' (iN P tb ⟨[],[(i,oO u g)]⟩ n ops σ)→Q .normal σ'):W P n Bw w0 (.region id ops false) σ Q:=IC c _ _ h e
theorem N7(c:bV P tb)(i:Nat)(g:QV){fid:FuncId}{args:List ag}{hin hout:Qw}{r:ag}(u:fP P fid args hin r hout){id:Nat}{ops:Array Oper}{d:Code}
  (h:iL P tb ⟨[],[(i,oO u g)]⟩ n ops σ=some (cP ops.size 0 [(i,i,oc u)])) (e:W P n Bw w0 d (iN P tb ⟨[],[(i,oO u g)]⟩ n ops σ) Q):W P n Bw w0 (.seq (.region id ops false) d) σ Q:=NP c _ _ h e
theorem OL(e:bV P tb){fid:FuncId}{args:List ag}{hin:Qw}{y:Value}(_:j7 P fid args hin y)(an:An)(r:Nat){id:Nat}{ops:Array Oper}(f:List (Nat×Nat×PP))
  (h:De P tb an n ops r σ=some (cP (r+1) 0 f,y)) (j:∀σ',Q (.panic [{ v:=y,recovered:=false }]) σ'):W P n Bw w0 (.region id ops false) σ Q:=by
 unfold De at h;split at h
 ·rename_i s q c u p;cases h;exact vE e an r p (xa _ _ _) (j _)
 ·cases h
theorem Ov(c:bV P tb)(r:Nat)(g:QV){fid:FuncId}{args:List ag}{hin:Qw}{y:Value}(u:j7 P fid args hin y){id:Nat}{ops:Array Oper}
  (h:De P tb ⟨[],[(r,oD u g)]⟩ n ops r σ=some (cP (r+1) 0 [(r,r,oc u)],y)) (e:∀σ',Q (.panic [{ v:=y,recovered:=false }]) σ'):W P n Bw w0 (.region id ops false) σ Q:=OL c u _ r _ h e
def Nl:ag→Option Bool
 | .p _ .bool b=>some b
 | _=>none
theorem xA{x:ag}{b:Bool}(h:Nl x=some b):∃β,x = .p β .bool b:=by
 unfold Nl at h;split at h
 ·rename_i β c;cases h;exact⟨β,rfl⟩
 ·cases h
theorem aC{b:Bool}{α:Type}{u v:Option α}{r:α}{c:Operand}{x y:Code}(h:(if b=true then u else v)=some r)
  (f:b=true→u=some r→W P n Bw w0 x σ Q) (j:b=false→v=some r→W P n Bw w0 y σ Q) (p:Nl (ev σ.s c)=some b:=by kernel_rfl):W P n Bw w0 (.cond c x y) σ Q:=by
 obtain⟨β,e⟩:=xA p;exact Ed e (fun hb=>f hb (Oa hb h)) (fun hb=>j hb (Lx hb h))
theorem nY{b:Bool}(hb:b=true){c:Operand}{x y:Code}(f:W P n Bw w0 x σ Q)(j:Nl (ev σ.s c)=some b:=by kernel_rfl):W P n Bw w0 (.cond c x y) σ Q:=by
 obtain⟨β,e⟩:=xA j;exact Ed e (fun _=>f) (fun h=>by rw[hb]at h;cases h)
theorem oM{b:Bool}(hb:b=false){c:Operand}{x y:Code}(f:W P n Bw w0 y σ Q)(j:Nl (ev σ.s c)=some b:=by kernel_rfl):W P n Bw w0 (.cond c x y) σ Q:=by
 obtain⟨β,e⟩:=xA j;exact Ed e (fun h=>by rw[hb]at h;cases h) (fun _=>f)
theorem bn{α β:Type}{m:Option α}{k:α→Option β}{r:β}{c:Code}(h:m.bind k=some r)(f:α→St)
  (j:∀v,m=some v→W P n Bw w0 c σ (oT n f v)) (p:∀v,k v=some r→∀σ',Le n σ' (f v)→Q .normal σ'):W P n Bw w0 c σ Q:=by
 obtain⟨v,q,u⟩:=aj h;refine(j v q).mono fun e σ' x=>?_
 obtain⟨rfl,hl⟩:=x;exact p v u σ' hl
theorem Ec{α β:Type}{m:Option α}{k:α→Option β}{r:β}{c:Code}(h:m.bind k=some r)(F:α→Exit→St→Prop)
  (f:∀v,m=some v→W P n Bw w0 c σ (F v)) (j:∀v,k v=some r→∀e σ',F v e σ'→Q e σ'):W P n Bw w0 c σ Q:=by
 obtain⟨v,p,q⟩:=aj h;exact(f v p).mono (j v q)
theorem kj{S T β:Type}{j:S→Option (S⊕T)}{k:T→Option β}{r:β}{c:Code}{x:S}(h:(iter j x).bind k=some r)(f:S→St)(F:T→Exit→St→Prop)(hl:Le n σ (f x))
  (step:∀y o,j y=some o→W P n Bw w0 c (f y) (oR n f F o)) (p:∀v,k v=some r→∀e σ',F v e σ'→Q e σ'):W P n Bw w0 (.loop c) σ Q:=by
 obtain⟨v,q,u⟩:=aj h;exact(Md f F q hl step).mono (p v u)
theorem cw{S T β:Type}{p:S→Option (S⊕T)}{k:T→Option β}{r:β}{c:Code}{x:S}(h:(iter p x).bind k=some r)(f:S→St)(j:Nat)(g:T→St)(hl:Le n σ (f x))
  (step:∀y o,p y=some o→W P n Bw w0 c (f y) (oR n f (fc n j g) o)) (q:∀v,k v=some r→∀σ',Le n σ' (g v)→Q (.exit j) σ'):W P n Bw w0 (.loop c) σ Q:=by
 refine kj h f (fc n j g) hl step fun v hk e σ' u=>?_
 obtain⟨rfl,hl⟩:=u;exact q v hk σ' hl
theorem eN{S:Type}{f:S→St}{v a:S}(h:some a=some v)(hl:Le n σ1 (f a)):∀σ',Le n σ' σ1→oT n f v .normal σ':=by cases h;exact cM hl
theorem eB{S T:Type}{f:S→St}{F:T→Exit→St→Prop}{a:S}{r:S⊕T}(h:some (Sum.inl a)=some r)(hl:Le n σ1 (f a)):∀σ',Le n σ' σ1→oR n f F r .normal σ':=by cases h;exact LI hl
theorem eX{S T:Type}{f:S→St}{g:T→St}{a:T}{r:S⊕T}{j:Nat}(h:some (Sum.inr a)=some r)(hl:Le n σ1 (g a)):∀σ',Le n σ' σ1→oR n f (fc n j g) r (.exit j) σ':=by cases h;exact dJ (bN hl)
end
end Go.Tv
namespace Go.Tv
open Go Go.RowKit
open Go.IntKind (u32 u64)
def qy(x:Int):Int:=if x == 0 then 32 else K6.getD (bits BinOp.and u32 x (-x % 4294967296)*125613361 % 4294967296 / 134217728).toNat 0
theorem Ie(y:Int):(y % 4294967296 / 134217728).toNat<32:=by omega
theorem HG:∀i,i<32→wrap64 (K6.getD i 0)=K6.getD i 0:=by decide +kernel
theorem Iz{x:Int}(h:(x == 0)=false):wrap64 (K6.getD (bits BinOp.and u32 x (-x % 4294967296)*125613361 % 4294967296 / 134217728).toNat 0)=qy x:=by
 rw[HG _ (Ie _)];simp only[qy,h,Bool.false_eq_true,if_false]
theorem Hd{x:Int}(h:(x == 0)=true):qy x=32:=by simp only[qy,h,if_true]
theorem Pure.NA{P:Program}{f:FuncId}{fn:Func}(B:P.funcs[f]? = some fn)(j:(fn.name == "runtime.NumGoroutine")=false)(hb:fn.body.isNone=false){β:Bool}{x:Int}
  (h:∀w,vo P w→Calls P f #[.int .u32 x] w fun e w'=>e = .returned (.int .i64 (qy x))∧w'=w):Pure P f [.p β (.int .u32) x] (.p false (.int .i64) (qy x)):=by
 refine⟨⟨fn,B,j,hb⟩,fun Bw w z q C c=>?_⟩;match u:z.toList,c with
 | [v0],c =>
  have D:=bR c.1;subst D;have:z = #[.int .u32 x]:=Array.ext' u;subst this;refine(h w q).mono fun r w' ⟨E,I⟩=>⟨_,E,by subst I;exact(Kept.refl (lR q)).below,dC _ _ _⟩
end Go.Tv
namespace Go.Tv
open Go
open Go.IntKind (u32 u64)
def N2(P:Program)(t:TypeId):Option (List ag):=((P.info? t).bind (·.zero)).map fun z=>z.cells.toList.map kd
def Ox(P:Program)(t:TypeId)(sz Np:Nat):Bool :=
 match P.info? t with
 | some i=>match i.zero with
  | some z=>i.size == sz && i.bytes == Np && z.cells.size == sz && z.cells.toList.all (·.oneCell')
  | none=>false
 | none=>false
theorem MO{P:Program}{t:TypeId}{ti:TI}(f:N2 P t=some ti.z)(e:Ox P t ti.size ti.bytes=true):
  ∃i z,P.info? t=some i∧i.zero=some z∧i.size=ti.size∧i.bytes=ti.bytes∧z.cells.toList.map kd=ti.z∧z.cells.size=ti.size∧∀c∈z.cells.toList,c.oneCell'=true:=by
 unfold Ox at e;split at e
 ·rename_i i hi;split at e
  ·rename_i z hz;simp only[Bool.and_eq_true,beq_iff_eq,List.all_eq_true]at e;obtain⟨⟨⟨a,b⟩,c⟩,d⟩:=e;unfold N2 at f;rw[hi]at f;simp only[Option.bind,hz,Option.map,Option.some.injEq]at f;exact⟨i,z,hi,hz,a,b,f,c,d⟩
  ·cases e
 ·cases e
section
variable{P:Program}{n:NS}{Bw:Nat→Prop}{w0:cu P}{σ:St}{Q:Exit→St→Prop}{tb:bP}
theorem AZ(d:Nat){w:World}{t f:TypeId}(h:P.underlying t=some (.slice f))(e:Option Addr)(l c:Nat):(Op.equalIn (d+1) t (.slice e l c) (.slice none 0 0)).run P w = .ok e.isNone w:=by
 cases e <;> simp[Op.equalIn,run_underlying h]
def rQ(P:Program)(n:NS)(Bw:Nat→Prop)(w0:cu P)(c:Code)(Q:Exit→St→Prop):Nat→Exit→St→Prop
 | 0,.normal,_=>False
 | k+1,.normal,σ=>W P n Bw w0 c σ (rQ P n Bw w0 c Q k)
 | _,e,σ=>Q e σ
theorem wi{c:Code}{k:Nat}{e:Exit}(f:e ≠ .normal):rQ P n Bw w0 c Q k e σ=Q e σ:=by
 cases e <;> first | exact absurd rfl f | (cases k <;> rfl)
theorem yi(k:Nat){c:Code}(h:W P n Bw w0 c σ (rQ P n Bw w0 c Q k)):W P n Bw w0 (.loop c) σ Q:=fun a w j=>by
 refine wp_loop_rounds (k+1) ?_;have key:∀k σ,W P n Bw w0 c σ (rQ P n Bw w0 c Q k)→∀a w,R n Bw w0 σ a w→Code.rounds P c (fun e p q=>∃σ',R n Bw w0 σ' p q∧Q e σ') (k+1) a w:=by
  intro k;induction k with
  | zero =>
   intro σ h a w j;refine wp_mono (h a w j) fun e p q ⟨σ',u,f⟩=>?_
   cases e with
   | normal=>exact f.elim
   | _=>exact⟨σ',u,by rw[wi (by simp)]at f;exact f⟩
  | succ k v =>
   intro σ h a w j;refine wp_mono (h a w j) fun e p q ⟨σ',u,f⟩=>?_
   cases e with
   | normal=>exact v σ' f p q u
   | _=>exact⟨σ',u,by rw[wi (by simp)]at f;exact f⟩
 exact key k σ h a w j
theorem sf{c:Code}{k:Nat}{σ1:St}(h:W P n Bw w0 c σ1 (rQ P n Bw w0 c Q k)):∀σ',Le n σ' σ1→rQ P n Bw w0 c Q (k+1) .normal σ':=fun _ hl=>JX hl h
theorem Ok{c:Code}{k j:Nat}{σ1:St}(h:∀σ',Le n σ' σ1→Q (.exit j) σ'):∀σ',Le n σ' σ1→rQ P n Bw w0 c Q k (.exit j) σ':=fun σ' hl=>by rw[wi (by simp)];exact h σ' hl
theorem D4{c:Code}{k:Nat}(h:Q .ret σ):rQ P n Bw w0 c Q k .ret σ:=by rw[wi (by simp)];exact h
theorem EW(z:bV P tb){id:Nat}{ops:Array Oper}{B o1:Oper}{d e:Nat}{t Y el:TypeId}{β:Bool}{A:Ty}{xs:List A.den}{c:Code}
  (C:ops = #[B,o1]) (hd:B.dst=some d) (Z:o1.dst=some e) (ho:o1.op = .binOp .eql t (.tmp d) (.const (.slice none 0 0)) Y) (hg:o1.guard=none) (D:wG n (some e)=true)
  (E:pw P tb a0 n σ.nx ops 0 B σ.s σ.h=some (.p β (.slice A) xs,[],True)) (hu:P.underlying t=some (.slice el))
  (hq:∀b,(b=true→xs=[])→W P n Bw w0 c ⟨dE (dE σ.s (some d) (.p β (.slice A) xs)) (some e) (.p false .bool b),σ.h,σ.nx+16,σ.pn⟩ Q):W P n Bw w0 (.seq (.region id ops false) c) σ Q:=by
 refine af fun a w M=>?_
 obtain⟨ρ,φ,q1,q2,q3⟩:=M.ex;refine wp_region ?_;rw[show ops.size=2 by rw[C];rfl,show List.range 2=[0,1]from rfl];rw[wpOps_cons];refine jY (done:=fun j=>j<0) z ⟨ρ,φ,q1,q2,fun id u hu=> .inl (q3 id u hu)⟩ (by rw[C];rfl) (Nat.lt_irrefl 0) E trivial fun a1 N hm=>?_
 rw[wpOps_cons];obtain⟨I,φ1,r1,O,r3⟩:=hm.ex;have J:=O.sl d;rw[hd,dE,ao]at J;simp only[V,ai]at J;obtain⟨-,f,l,X,q,⟨hl,-⟩,L⟩:=J;have hb:f.isNone=true→xs=[]:=fun hn=>by
  cases xs with
  | nil=>rfl
  | cons y ys =>obtain⟨b,e,-⟩:=L 0 (by simp);rw[e]at hn;cases hn
 unfold wpOp;rw[C];simp only[List.getElem?_toArray,List.getElem?_cons_succ,List.getElem?_cons_zero];rw[if_pos (by unfold Region.wanted;rw[hg])];refine .inl ?_;refine Good.aH (post:=fun v w'=>v = .bool f.isNone∧w'=N) (v:= .bool f.isNone) (w':=N) ?_ ⟨rfl,rfl⟩ _ _ ?_
 ·simp only[execOp,ho,Act.eval,←q];rw[Sem.run_bind,Sem.run_bind,bJ (by intro cs e;cases e) (by intro e;cases e),Result.andThen_ok];rw[show binOp .eql t (.slice f l X) (.slice none 0 0)=(do pure (.bool (←Op.equal t (.slice f l X) (.slice none 0 0)))) by cases f <;> rfl];simp only[Op.equal,Op.maxDepth,Sem.run_bind,AZ 9999 hu,Result.andThen_ok];rfl
 ·rintro v w' ⟨rfl,rfl⟩;refine⟨⟨dE (dE σ.s (some d) (.p β (.slice A) xs)) (some e) (.p false .bool f.isNone),σ.h,σ.nx+16,σ.pn⟩,⟨⟨I,φ1,r1,?_,fun id u hu=>?_⟩,M.pn⟩,hq _ hb⟩
  ·have:=O.BS (x:= .p false .bool f.isNone) (ja false f.isNone) D;rw[hd]at this;rw[Z];exact this
  ·rcases r3 id u hu with h1 | ⟨i,j,h1,h2,h3⟩ <;> simp only <;> omega
end
def yc(a:QJ):QJ:=a.map fun n=>n % 9223372036854775808
theorem Kc(b:Nat):dN (b % 9223372036854775808)=yc (dN b):=by
 have c:FloatKind.f64.format.signWeight=9223372036854775808:=rfl;have e:(FloatKind.f64.decode (b % 9223372036854775808)).isNaN=(FloatKind.f64.decode b).isNaN:=by
  unfold FloatKind.decode Ieee.Format.read;rw[c];simp only[Nat.mod_mod];split
  ·rfl
  ·split
   ·rfl
   ·split <;> rfl
 unfold dN yc;rw[e];split <;> rfl
theorem Il(b:Nat):bitsOf .andNot .u64 (b:Int) 9223372036854775808=((b % 9223372036854775808:Nat):Int):=by
 have c:BitVec.ofInt 64 (b:Int)=BitVec.ofNat 64 b:=BitVec.ofInt_natCast ..;have e : ~~~(BitVec.ofInt 64 9223372036854775808)=BitVec.ofNat 64 (2 ^ 63 - 1):=by decide
 have f:(BitVec.ofNat 64 b &&& BitVec.ofNat 64 (2 ^ 63 - 1)).toNat=b % 9223372036854775808:=by rw[BitVec.toNat_and,BitVec.toNat_ofNat,BitVec.toNat_ofNat,Nat.mod_eq_of_lt (show 2 ^ 63 - 1<2 ^ 64 by decide),Nat.and_two_pow_sub_one_eq_mod];omega
 unfold bitsOf;show u64.wrap ((BitVec.ofInt 64 (b:Int) &&& ~~~(BitVec.ofInt 64 9223372036854775808)).toNat:Int)=_;rw[c,e,f];have:=Nat.mod_lt b (show 0<9223372036854775808 by decide);generalize b % 9223372036854775808=r at this;simp only[IntKind.wrap,IntKind.min,IntKind.max,IntKind.bits,IntKind.signed]
 first | omega | (simp;omega)
theorem IY(b:Nat):(bits BinOp.andNot u64 (b:Int) 9223372036854775808).toNat=b % 9223372036854775808:=by
 rw[show bits BinOp.andNot u64 (b:Int) 9223372036854775808=bitsOf .andNot .u64 (b:Int) 9223372036854775808 from rfl,Il,Int.toNat_natCast]
theorem Pure.LU{P:Program}{f:FuncId}{fn:Func}(C:P.funcs[f]? = some fn)(j:(fn.name == "runtime.NumGoroutine")=false)(hb:fn.body.isNone=false){β:Bool}{a:QJ}
  (h:∀(b:Nat) w,Calls P f #[.float .f64 b] w fun e w'=>e = .returned (.float .f64 (b % 9223372036854775808))∧w'=w):Pure P f [.p β .flt a] (.p false .flt (yc a)):=by
 refine⟨⟨fn,C,j,hb⟩,fun Bw w B u D c=>?_⟩;match z:B.toList,c with
 | [v0],c =>
  have q:=c.1;simp only[V,ai]at q;obtain⟨-,m,q,E⟩:=q;subst q E;have:B = #[.float .f64 m]:=Array.ext' z;subst this;refine(h m w).mono fun r w' ⟨I,J⟩=>⟨_,I,by subst J;exact(Kept.refl (lR u)).below,?_⟩
  simp only[V,ai];exact⟨rfl,_,rfl,Kc m⟩
end Go.Tv
