import Derived.Test.YtbedjpdfkmfplaaGreatDoorTvSam
import Derived.KernelRfl
import Derived.WalkKit
import Derived.Lib.TrailingZeros
import Derived.LoopN
namespace Go.Tv
open Go
open Go.IntKind (u32 u64)
theorem tt:True:=trivial
def Ts:Nat→List Prop→List Prop
 | 0,l=>l
 | n+1,l=>True::Ts n l
theorem tr:∀(n:Nat) {l:List Prop},qj l→qj (Ts n l)
 | 0,_,h=>h
 | n+1,_,h=>⟨trivial,tr n h⟩
theorem sI{α:Type}{a b:α}(h:some a=some b):a=b:=Option.some.inj h
theorem nl{a b:Nat}(h:Nat.ble a b=true):a≤b:=Nat.le_of_ble_eq_true h
def pO{p:Prop}(_:p):Prop:=p
section
variable{P:Program}{n:NS}{Bw:Nat→Prop}{w0:cE P}{σ:St}{Q:Exit→St→Prop}{tb:bQ}
theorem gl(e:List G)(f:QV){l:List (Nat×ag)}{m:Qw}{nx pn:Nat}(h:(goal e f l m σ,(σ.pn == pn && lh (Jf f) l m nx pn))=(some (want f l m),true)):Le n σ (aA l m nx pn):=vW (Prod.mk.inj h).1 (Prod.mk.inj h).2
end
structure PP where
 p:Prop
 h:p
def oc{p:Prop}(h:p):PP:=⟨p,h⟩
def cP:Nat→Nat→List (Nat×Nat×PP)→List Prop
 | 0,_,_=>[]
 | k+1,i,[]=>True::cP k (i+1) []
 | k+1,i,(j,e,c)::r=>match Nat.blt i j,Nat.blt i e with
  | true,_=>True::cP k (i+1) ((j,e,c)::r)
  | false,true=>c.p::cP k (i+1) ((j,e,c)::r)
  | false,false=>c.p::cP k (i+1) r
theorem xi:∀(k i:Nat) (l:List (Nat×Nat×PP)),qj (cP k i l)
 | 0,_,_=>trivial
 | k+1,i,[]=>⟨trivial,xi k (i+1) []⟩
 | k+1,i,(j,e,c)::r=>by
  unfold cP;split
  ·exact⟨trivial,xi k (i+1) _⟩
  ·exact⟨c.h,xi k (i+1) _⟩
  ·exact⟨c.h,xi k (i+1) _⟩
def an{p:Prop}(h:p):PP:=oc (And.intro h trivial)
def ct:List Bool:=List.replicate 40 true
def a0:An:=⟨[],[]⟩
section
variable{P:Program}{fid:FuncId}{args:List ag}{hin:Qw}
def oP{r:ag}(_:Pure P fid args r)(fl:List Bool:=[])(cn:List Bool:=ct):yt:=⟨r,fl,false,cn,[],[],none⟩
def oO{r:ag}{hout:Qw}(_:gN P fid args hin r hout)(g:QV)(fl:List Bool:=[])(cn:List Bool:=ct):yt:=⟨r,fl,true,cn,g,hout,none⟩
def oD{x:Value}(_:kg P fid args hin x)(g:QV)(fl:List Bool:=[])(cn:List Bool:=ct):yt:=⟨.unk,fl,true,cn,g,[],some x⟩
end
theorem gg{n:NS}{σ:St}(e:List G)(f:QV){l:List (Nat×ag)}{m:Qw}{nx pn:Nat}(h:(goal e f l m σ,(σ.pn == pn && lh (Jf f) l m nx pn))=(some (want f l m),true):=by kernel_rfl):Le n σ (aA l m nx pn):=gl e f h
theorem g2{α:Type}{p q:Prop}[Decidable p][Decidable q]{x:Option α}{r:α}(h:(if p then(if q then x else none)else none)=some r):p∧q∧x=some r:=⟨(aE h).1,aE (aE h).2⟩
theorem g3{α:Type}{p q s:Prop}[Decidable p][Decidable q][Decidable s]{x:Option α}{r:α}(h:(if p then(if q then(if s then x else none)else none)else none)=some r):p∧q∧s∧x=some r:=⟨(aE h).1,g2 (aE h).2⟩
theorem g4{α:Type}{p q s t:Prop}[Decidable p][Decidable q][Decidable s][Decidable t]{x:Option α}{r:α}(h:(if p then(if q then(if s then(if t then x else none)else none)else none)else none)=some r):p∧q∧s∧t∧x=some r:=⟨(aE h).1,g3 (aE h).2⟩
theorem aI{α:Type}{b:Bool}{x y:Option α}{r:α}(h:(if b=true then x else y)=some r):(b=true∧x=some r)∨(b=false∧y=some r):=by
 cases b with
 | true=>exact .inl ⟨rfl,h⟩
 | false=>exact .inr ⟨rfl,h⟩
section
variable{P:Program}{n:NS}{Bw:Nat→Prop}{w0:cE P}{σ σ1:St}{Q:Exit→St→Prop}{tb:bQ}
def iW(P:Program)(tb:bQ)(an:An)(n:NS)(ops:Array Oper)(σ:St):St :=
 match Hn P tb an n σ.nx ops ops.toList 0 σ.s σ.h with
 | some (s,h,_)=>⟨s,h,σ.nx+8*ops.size,σ.pn⟩
 | none=>σ
def iY(P:Program)(tb:bQ)(an:An)(n:NS)(ops:Array Oper)(σ:St):Option (List Prop) :=
 match Hn P tb an n σ.nx ops ops.toList 0 σ.s σ.h with
 | some (_,_,c)=>some c
 | none=>none
def CZ(P:Program)(tb:bQ)(an:An)(n:NS)(ops:Array Oper)(σ:St):St :=
 match Df P tb an n σ.nx ops ops.toList 0 σ.s σ.h with
 | some (s,h,_,_)=>⟨s,h,σ.nx+8*ops.size,σ.pn⟩
 | none=>σ
def Cd(P:Program)(tb:bQ)(an:An)(n:NS)(ops:Array Oper)(σ:St):Option (List Prop) :=
 match Df P tb an n σ.nx ops ops.toList 0 σ.s σ.h with
 | some (_,_,c,e)=>match GZ ops (ry e) (rU e) (qI ops) ops.size 0 (Array.replicate ops.size false)with
  | true=>some c
  | false=>none
 | none=>none
def Cq(P:Program)(tb:bQ)(an:An)(n:NS)(ops:Array Oper)(r:Nat)(σ:St):Option (List Prop×Value) :=
 match pK P tb an n σ.nx ops r ops.toList 0 σ.s σ.h with
 | some (_,_,c,y)=>some (c,y)
 | none=>none
theorem ab{d:Code}(h:W P n Bw w0 d σ1 Q):∀σ',Le n σ' σ1→Ac P n Bw w0 d Q .normal σ':=fun _ hl=>J8 hl h
def Ft(e:List G)(σ:St):St :=
 match pz e σ with
 | some σ'=>σ'
 | none=>σ
theorem kM(j:List G){c:Code}(h:(pz j σ).isSome=true)(f:W P n Bw w0 c (Ft j σ) Q):W P n Bw w0 c σ Q:=by
 unfold Ft at f;split at f
 ·rename_i σ' e;exact J8 (uC e) f
 ·rename_i e;rw[e]at h;cases h
def Jw:Qz→QJ
 | some (.nds _ _ e none)=>some e.length
 | _=>none
def Ls(id i:Nat)(f:Bool)(σ:St):St :=
 match σ.h id with
 | some (.nds e j q none)=>⟨σ.s,bu (bu σ.h id (some (.nds e j q (some (i,f,σ.nx))))) σ.nx (some (yl j f (q.getD i Nd.z))),σ.nx+1,σ.pn⟩
 | _=>σ
theorem Ki{id i m:Nat}(f:Bool)(hi:i<m)(z:Jw (σ.h id)=some m):Le n σ (Ls id i f σ):=fun P Bw w0 a w A=>by
 unfold Jw at z;split at z
 ·rename_i e N O q;cases z;obtain⟨ρ,φ,D,E,B⟩:=A.ex;have hn:ρ σ.nx=none:=by
   cases I:ρ σ.nx with
   | none=>rfl
   | some u=>have:=B _ _ I;omega
  obtain⟨v,_,J,L,M⟩:=D.LJ f q hn hi;unfold Ls;rw[q];refine⟨⟨_,_,J,E.mono L M,fun j u C=>?_⟩,A.pn⟩;by_cases e:j=σ.nx
  ·subst e;exact Nat.lt_succ_self _
  ·rw[aD _ _ e]at C;exact Nat.lt_succ_of_lt (B _ _ C)
 ·cases z
theorem zK(id i:Nat)(f:Bool){c:Code}{m:Nat}(hi:i<m)(e:Jw (σ.h id)=some m)(j:W P n Bw w0 c (Ls id i f σ) Q):W P n Bw w0 c σ Q:=J8 (Ki f hi e) j
theorem Jh(e:bY P tb)(an:An){id:Nat}{ops:Array Oper}(q:List (Nat×Nat×PP))
  (h:iY P tb an n ops σ=some (cP ops.size 0 q)) (f:∀σ',Le n σ' (iW P tb an n ops σ)→Q .normal σ'):W P n Bw w0 (.region id ops false) σ Q:=by
 unfold iY at h;unfold iW at f;split at h
 ·rename_i s u c j;cases h;rw[j]at f;exact BI e an j (xi _ _ _) (f _ (Le.refl _))
 ·cases h
theorem NM(e:bY P tb)(an:An){id:Nat}{ops:Array Oper}{d:Code}(f:List (Nat×Nat×PP))
  (h:iY P tb an n ops σ=some (cP ops.size 0 f)) (j:W P n Bw w0 d (iW P tb an n ops σ) Q):W P n Bw w0 (.seq (.region id ops false) d) σ Q :=
 af (Jh e an f h (ab j))
theorem MQ(e:bY P tb)(q:P.follows .mixedOrders=true)(an:An){id:Nat}{ops:Array Oper}(u:List (Nat×Nat×PP))
  (h:Cd P tb an n ops σ=some (cP ops.size 0 u)) (f:∀σ',Le n σ' (CZ P tb an n ops σ)→Q .normal σ'):W P n Bw w0 (.region id ops true) σ Q:=by
 unfold Cd at h;unfold CZ at f;split at h
 ·rename_i s z c A j;split at h
  ·rename_i v;cases h;rw[j]at f;exact LK e q an j v (xi _ _ _) (f _ (Le.refl _))
  ·cases h
 ·cases h
theorem Ps(e:bY P tb)(j:P.follows .mixedOrders=true)(an:An){id:Nat}{ops:Array Oper}{d:Code}(f:List (Nat×Nat×PP))
  (h:Cd P tb an n ops σ=some (cP ops.size 0 f)) (q:W P n Bw w0 d (CZ P tb an n ops σ) Q):W P n Bw w0 (.seq (.region id ops true) d) σ Q :=
 af (MQ e j an f h (ab q))
def cG:Nat→Nat→Prop→List Prop
 | 0,_,_=>[]
 | k+1,0,p=>p::Ts k []
 | k+1,i+1,p=>True::cG k i p
theorem Lj:∀(k i:Nat) {p:Prop},p→qj (cG k i p)
 | 0,_,_,_=>trivial
 | k+1,0,_,h=>⟨h,tr k trivial⟩
 | k+1,i+1,_,h=>⟨trivial,Lj k i h⟩
theorem K7(f:bY P tb)(i:Nat){α:Type}{p:Prop}[Decidable p]{u:Option α}{r:α}(h:(if p then u else none)=some r){id:Nat}{ops:Array Oper}
  (hk:iY P tb a0 n ops σ=some (cG ops.size i p)) (e:u=some r→∀σ',Le n σ' (iW P tb a0 n ops σ)→Q .normal σ'):W P n Bw w0 (.region id ops false) σ Q:=by
 obtain⟨q,hu⟩:=aE h
 replace e:=e hu
 unfold iY at hk;unfold iW at e;split at hk
 ·rename_i s v c j;cases hk;rw[j]at e;exact BI f a0 j (Lj _ _ q) (e _ (Le.refl _))
 ·cases hk
theorem N0(e:bY P tb)(i:Nat){α:Type}{p:Prop}[Decidable p]{u:Option α}{r:α}(h:(if p then u else none)=some r){id:Nat}{ops:Array Oper}{d:Code}
  (hk:iY P tb a0 n ops σ=some (cG ops.size i p)) (f:u=some r→W P n Bw w0 d (iW P tb a0 n ops σ) Q):W P n Bw w0 (.seq (.region id ops false) d) σ Q :=
 af (K7 e i h hk fun hu=>ab (f hu))
theorem Np(e:bY P tb)(i:Nat){fid:FuncId}{args:List ag}{r:ag}(u:Pure P fid args r){id:Nat}{ops:Array Oper}
  (h:iY P tb ⟨[],[(i,oP u)]⟩ n ops σ=some (cP ops.size 0 [(i,i,oc u)])) (f:∀σ',Le n σ' (iW P tb ⟨[],[(i,oP u)]⟩ n ops σ)→Q .normal σ'):W P n Bw w0 (.region id ops false) σ Q:=Jh e _ _ h f
theorem Oc(e:bY P tb)(i:Nat){fid:FuncId}{args:List ag}{r:ag}(u:Pure P fid args r){id:Nat}{ops:Array Oper}{d:Code}
  (h:iY P tb ⟨[],[(i,oP u)]⟩ n ops σ=some (cP ops.size 0 [(i,i,oc u)])) (f:W P n Bw w0 d (iW P tb ⟨[],[(i,oP u)]⟩ n ops σ) Q):W P n Bw w0 (.seq (.region id ops false) d) σ Q:=NM e _ _ h f
theorem MI(e:bY P tb)(i:Nat)(g:QV){fid:FuncId}{args:List ag}{hin hout:Qw}{r:ag}(u:gN P fid args hin r hout){id:Nat}{ops:Array Oper}
  (h:iY P tb ⟨[],[(i,oO u g)]⟩ n ops σ=some (cP ops.size 0 [(i,i,oc u)])) (f:∀σ',Le n σ' (iW P tb ⟨[],[(i,oO u g)]⟩ n ops σ)→Q .normal σ'):W P n Bw w0 (.region id ops false) σ Q:=Jh e _ _ h f
theorem Ot(e:bY P tb)(i:Nat)(g:QV){fid:FuncId}{args:List ag}{hin hout:Qw}{r:ag}(u:gN P fid args hin r hout){id:Nat}{ops:Array Oper}{d:Code}
  (h:iY P tb ⟨[],[(i,oO u g)]⟩ n ops σ=some (cP ops.size 0 [(i,i,oc u)])) (f:W P n Bw w0 d (iW P tb ⟨[],[(i,oO u g)]⟩ n ops σ) Q):W P n Bw w0 (.seq (.region id ops false) d) σ Q:=NM e _ _ h f
theorem OV(e:bY P tb){fid:FuncId}{args:List ag}{hin:Qw}{y:Value}(_:kg P fid args hin y)(an:An)(r:Nat){id:Nat}{ops:Array Oper}(f:List (Nat×Nat×PP))
  (h:Cq P tb an n ops r σ=some (cP (r+1) 0 f,y)) (j:∀σ',Q (.panic [{ v:=y,recovered:=false }]) σ'):W P n Bw w0 (.region id ops false) σ Q:=by
 unfold Cq at h;split at h
 ·rename_i s u c z q;cases h;exact vz e an r q (xi _ _ _) (j _)
 ·cases h
theorem Ok(e:bY P tb)(r:Nat)(g:QV){fid:FuncId}{args:List ag}{hin:Qw}{y:Value}(u:kg P fid args hin y){id:Nat}{ops:Array Oper}
  (h:Cq P tb ⟨[],[(r,oD u g)]⟩ n ops r σ=some (cP (r+1) 0 [(r,r,oc u)],y)) (f:∀σ',Q (.panic [{ v:=y,recovered:=false }]) σ'):W P n Bw w0 (.region id ops false) σ Q:=OV e u _ r _ h f
def Nf:ag→Option Bool
 | .p _ .bool b=>some b
 | _=>none
theorem wY{x:ag}{b:Bool}(h:Nf x=some b):∃β,x = .p β .bool b:=by
 unfold Nf at h;split at h
 ·rename_i β e;cases h;exact⟨β,rfl⟩
 ·cases h
theorem aC{b:Bool}{α:Type}{u v:Option α}{r:α}{c:Operand}{x y:Code}(h:(if b=true then u else v)=some r)
  (f:b=true→u=some r→W P n Bw w0 x σ Q) (j:b=false→v=some r→W P n Bw w0 y σ Q) (q:Nf (ev σ.s c)=some b:=by kernel_rfl):W P n Bw w0 (.cond c x y) σ Q:=by
 obtain⟨β,e⟩:=wY q;exact En e (fun hb=>f hb (Oe hb h)) (fun hb=>j hb (Mg hb h))
theorem m8{b:Bool}(hb:b=true){c:Operand}{x y:Code}(f:W P n Bw w0 x σ Q)(j:Nf (ev σ.s c)=some b:=by kernel_rfl):W P n Bw w0 (.cond c x y) σ Q:=by
 obtain⟨β,e⟩:=wY j;exact En e (fun _=>f) (fun h=>by rw[hb]at h;cases h)
theorem xp{b:Bool}(hb:b=false){c:Operand}{x y:Code}(f:W P n Bw w0 y σ Q)(j:Nf (ev σ.s c)=some b:=by kernel_rfl):W P n Bw w0 (.cond c x y) σ Q:=by
 obtain⟨β,e⟩:=wY j;exact En e (fun h=>by rw[hb]at h;cases h) (fun _=>f)
theorem bm{α β:Type}{m:Option α}{k:α→Option β}{r:β}{c:Code}(h:m.bind k=some r)(f:α→St)
  (j:∀v,m=some v→W P n Bw w0 c σ (o6 n f v)) (q:∀v,k v=some r→∀σ',Le n σ' (f v)→Q .normal σ'):W P n Bw w0 c σ Q:=by
 obtain⟨v,u,z⟩:=aj h;refine(j v u).mono fun e σ' B=>?_
 obtain⟨rfl,hl⟩:=B;exact q v z σ' hl
theorem EC{α β:Type}{m:Option α}{k:α→Option β}{r:β}{c:Code}(h:m.bind k=some r)(F:α→Exit→St→Prop)
  (f:∀v,m=some v→W P n Bw w0 c σ (F v)) (j:∀v,k v=some r→∀e σ',F v e σ'→Q e σ'):W P n Bw w0 c σ Q:=by
 obtain⟨v,q,u⟩:=aj h;exact(f v q).mono (j v u)
theorem kX{S T β:Type}{j:S→Option (S⊕T)}{k:T→Option β}{r:β}{c:Code}{x:S}(h:(iter j x).bind k=some r)(f:S→St)(F:T→Exit→St→Prop)(hl:Le n σ (f x))
  (step:∀y o,j y=some o→W P n Bw w0 c (f y) (oU n f F o)) (q:∀v,k v=some r→∀e σ',F v e σ'→Q e σ'):W P n Bw w0 (.loop c) σ Q:=by
 obtain⟨v,u,z⟩:=aj h;exact(Mp f F u hl step).mono (q v z)
theorem cM{S T β:Type}{q:S→Option (S⊕T)}{k:T→Option β}{r:β}{c:Code}{x:S}(h:(iter q x).bind k=some r)(f:S→St)(j:Nat)(g:T→St)(hl:Le n σ (f x))
  (step:∀y o,q y=some o→W P n Bw w0 c (f y) (oU n f (fK n j g) o)) (u:∀v,k v=some r→∀σ',Le n σ' (g v)→Q (.exit j) σ'):W P n Bw w0 (.loop c) σ Q:=by
 refine kX h f (fK n j g) hl step fun v hk e σ' z=>?_
 obtain⟨rfl,hl⟩:=z;exact u v hk σ' hl
theorem eN{S:Type}{f:S→St}{v a:S}(h:some a=some v)(hl:Le n σ1 (f a)):∀σ',Le n σ' σ1→o6 n f v .normal σ':=by cases h;exact cW hl
theorem eB{S T:Type}{f:S→St}{F:T→Exit→St→Prop}{a:S}{r:S⊕T}(h:some (Sum.inl a)=some r)(hl:Le n σ1 (f a)):∀σ',Le n σ' σ1→oU n f F r .normal σ':=by cases h;exact Ml hl
theorem eX{S T:Type}{f:S→St}{g:T→St}{a:T}{r:S⊕T}{j:Nat}(h:some (Sum.inr a)=some r)(hl:Le n σ1 (g a)):∀σ',Le n σ' σ1→oU n f (fK n j g) r (.exit j) σ':=by cases h;exact eo (bT hl)
end
end Go.Tv
namespace Go.Tv
open Go Go.RowKit
open Go.IntKind (u32 u64)
def qE(x:Int):Int:=if x == 0 then 32 else KY.getD (bits BinOp.and u32 x (-x % 4294967296)*125613361 % 4294967296 / 134217728).toNat 0
theorem Jg(y:Int):(y % 4294967296 / 134217728).toNat<32:=by omega
theorem I4:∀i,i<32→wrap64 (KY.getD i 0)=KY.getD i 0:=by decide +kernel
theorem I1{x:Int}(h:(x == 0)=false):wrap64 (KY.getD (bits BinOp.and u32 x (-x % 4294967296)*125613361 % 4294967296 / 134217728).toNat 0)=qE x:=by
 rw[I4 _ (Jg _)];simp only[qE,h,Bool.false_eq_true,if_false]
theorem GG{x:Int}(h:(x == 0)=true):qE x=32:=by simp only[qE,h,if_true]
theorem Pure.NB{P:Program}{f:FuncId}{fn:Func}(C:P.funcs[f]? = some fn)(q:(fn.name == "runtime.NumGoroutine")=false)(hb:fn.body.isNone=false){β:Bool}{x:Int}
  (h:∀w,vu P w→Calls P f #[.int .u32 x] w fun e w'=>e = .returned (.int .i64 (qE x))∧w'=w):Pure P f [.p β (.int .u32) x] (.p false (.int .i64) (qE x)):=by
 refine⟨⟨fn,C,q,hb⟩,fun Bw w B u D j=>?_⟩;match z:B.toList,j with
 | [v0],j =>
  have E:=bR j.1;subst E;have:B = #[.int .u32 x]:=Array.ext' z;subst this;refine(h w u).mono fun r w' ⟨I,J⟩=>⟨_,I,by subst J;exact(Kept.refl (lJ u)).below,dM _ _ _⟩
end Go.Tv
namespace Go.Tv
open Go
open Go.IntKind (u32 u64)
def OC(P:Program)(t:TypeId):Option (List ag):=((P.info? t).bind (·.zero)).map fun z=>z.cells.toList.map kE
def Oa(P:Program)(t:TypeId)(sz MF:Nat):Bool :=
 match P.info? t with
 | some i=>match i.zero with
  | some z=>i.size == sz && i.bytes == MF && z.cells.size == sz && z.cells.toList.all (·.oneCell')
  | none=>false
 | none=>false
theorem NI{P:Program}{t:TypeId}{ti:TI}(f:OC P t=some ti.z)(e:Oa P t ti.size ti.bytes=true):
  ∃i z,P.info? t=some i∧i.zero=some z∧i.size=ti.size∧i.bytes=ti.bytes∧z.cells.toList.map kE=ti.z∧z.cells.size=ti.size∧∀c∈z.cells.toList,c.oneCell'=true:=by
 unfold Oa at e;split at e
 ·rename_i i hi;split at e
  ·rename_i z hz;simp only[Bool.and_eq_true,beq_iff_eq,List.all_eq_true]at e;obtain⟨⟨⟨a,b⟩,c⟩,d⟩:=e;unfold OC at f;rw[hi]at f;simp only[Option.bind,hz,Option.map,Option.some.injEq]at f;exact⟨i,z,hi,hz,a,b,f,c,d⟩
  ·cases e
 ·cases e
section
variable{P:Program}{n:NS}{Bw:Nat→Prop}{w0:cE P}{σ:St}{Q:Exit→St→Prop}{tb:bQ}
theorem AF(d:Nat){w:World}{t f:TypeId}(h:P.underlying t=some (.slice f))(e:Option Addr)(l c:Nat):(Op.equalIn (d+1) t (.slice e l c) (.slice none 0 0)).run P w = .ok e.isNone w:=by
 cases e <;> simp[Op.equalIn,run_underlying h]
def rQ(P:Program)(n:NS)(Bw:Nat→Prop)(w0:cE P)(c:Code)(Q:Exit→St→Prop):Nat→Exit→St→Prop
 | 0,.normal,_=>False
 | k+1,.normal,σ=>W P n Bw w0 c σ (rQ P n Bw w0 c Q k)
 | _,e,σ=>Q e σ
theorem wh{c:Code}{k:Nat}{e:Exit}(f:e ≠ .normal):rQ P n Bw w0 c Q k e σ=Q e σ:=by
 cases e <;> first | exact absurd rfl f | (cases k <;> rfl)
theorem yw(k:Nat){c:Code}(h:W P n Bw w0 c σ (rQ P n Bw w0 c Q k)):W P n Bw w0 (.loop c) σ Q:=fun a w j=>by
 refine wp_loop_rounds (k+1) ?_;have key:∀k σ,W P n Bw w0 c σ (rQ P n Bw w0 c Q k)→∀a w,R n Bw w0 σ a w→Code.rounds P c (fun e q u=>∃σ',R n Bw w0 σ' q u∧Q e σ') (k+1) a w:=by
  intro k;induction k with
  | zero =>
   intro σ h a w j;refine wp_mono (h a w j) fun e q u ⟨σ',v,f⟩=>?_
   cases e with
   | normal=>exact f.elim
   | _=>exact⟨σ',v,by rw[wh (by simp)]at f;exact f⟩
  | succ k z =>
   intro σ h a w j;refine wp_mono (h a w j) fun e q u ⟨σ',v,f⟩=>?_
   cases e with
   | normal=>exact z σ' f q u v
   | _=>exact⟨σ',v,by rw[wh (by simp)]at f;exact f⟩
 exact key k σ h a w j
theorem rY{c:Code}{k:Nat}{σ1:St}(h:W P n Bw w0 c σ1 (rQ P n Bw w0 c Q k)):∀σ',Le n σ' σ1→rQ P n Bw w0 c Q (k+1) .normal σ':=fun _ hl=>J8 hl h
theorem Ov{c:Code}{k j:Nat}{σ1:St}(h:∀σ',Le n σ' σ1→Q (.exit j) σ'):∀σ',Le n σ' σ1→rQ P n Bw w0 c Q k (.exit j) σ':=fun σ' hl=>by rw[wh (by simp)];exact h σ' hl
theorem EO{c:Code}{k:Nat}(h:Q .ret σ):rQ P n Bw w0 c Q k .ret σ:=by rw[wh (by simp)];exact h
theorem EA(z:bY P tb){id:Nat}{ops:Array Oper}{B o1:Oper}{d e:Nat}{t Y el:TypeId}{β:Bool}{A:Ty}{xs:List A.den}{c:Code}
  (C:ops = #[B,o1]) (hd:B.dst=some d) (Z:o1.dst=some e) (ho:o1.op = .binOp .eql t (.tmp d) (.const (.slice none 0 0)) Y) (hg:o1.guard=none) (D:xU n (some e)=true)
  (E:qc P tb a0 n σ.nx ops 0 B σ.s σ.h=some (.p β (.slice A) xs,[],True)) (hu:P.underlying t=some (.slice el))
  (hq:∀b,(b=true→xs=[])→W P n Bw w0 c ⟨dN (dN σ.s (some d) (.p β (.slice A) xs)) (some e) (.p false .bool b),σ.h,σ.nx+16,σ.pn⟩ Q):W P n Bw w0 (.seq (.region id ops false) c) σ Q:=by
 refine af fun a w M=>?_
 obtain⟨ρ,φ,q1,q2,q3⟩:=M.ex;refine wp_region ?_;rw[show ops.size=2 by rw[C];rfl,show List.range 2=[0,1]from rfl];rw[wpOps_cons];refine ka (done:=fun j=>j<0) z ⟨ρ,φ,q1,q2,fun id u hu=> .inl (q3 id u hu)⟩ (by rw[C];rfl) (Nat.lt_irrefl 0) E trivial fun a1 N hm=>?_
 rw[wpOps_cons];obtain⟨I,φ1,r1,O,r3⟩:=hm.ex;have J:=O.sl d;rw[hd,dN,av]at J;simp only[V,ai]at J;obtain⟨-,f,l,X,q,⟨hl,-⟩,L⟩:=J;have hb:f.isNone=true→xs=[]:=fun hn=>by
  cases xs with
  | nil=>rfl
  | cons y ys =>obtain⟨b,e,-⟩:=L 0 (by simp);rw[e]at hn;cases hn
 unfold wpOp;rw[C];simp only[List.getElem?_toArray,List.getElem?_cons_succ,List.getElem?_cons_zero];rw[if_pos (by unfold Region.wanted;rw[hg])];refine .inl ?_;refine Good.aH (post:=fun v w'=>v = .bool f.isNone∧w'=N) (v:= .bool f.isNone) (w':=N) ?_ ⟨rfl,rfl⟩ _ _ ?_
 ·simp only[execOp,ho,Act.eval,←q];rw[Sem.run_bind,Sem.run_bind,bJ (by intro cs e;cases e) (by intro e;cases e),Result.andThen_ok];rw[show binOp .eql t (.slice f l X) (.slice none 0 0)=(do pure (.bool (←Op.equal t (.slice f l X) (.slice none 0 0)))) by cases f <;> rfl];simp only[Op.equal,Op.maxDepth,Sem.run_bind,AF 9999 hu,Result.andThen_ok];rfl
 ·rintro v w' ⟨rfl,rfl⟩;refine⟨⟨dN (dN σ.s (some d) (.p β (.slice A) xs)) (some e) (.p false .bool f.isNone),σ.h,σ.nx+16,σ.pn⟩,⟨⟨I,φ1,r1,?_,fun id u hu=>?_⟩,M.pn⟩,hq _ hb⟩
  ·have:=O.BP (x:= .p false .bool f.isNone) (jy false f.isNone) D;rw[hd]at this;rw[Z];exact this
  ·rcases r3 id u hu with h1 | ⟨i,j,h1,h2,h3⟩ <;> simp only <;> omega
end
def xC(a:QJ):QJ:=a.map fun n=>n % 9223372036854775808
theorem Kt(b:Nat):dO (b % 9223372036854775808)=xC (dO b):=by
 have f:FloatKind.f64.format.signWeight=9223372036854775808:=rfl;have e:(FloatKind.f64.decode (b % 9223372036854775808)).isNaN=(FloatKind.f64.decode b).isNaN:=by
  unfold FloatKind.decode Ieee.Format.read;rw[f];simp only[Nat.mod_mod];split
  ·rfl
  ·split
   ·rfl
   ·split <;> rfl
 unfold dO xC;rw[e];split <;> rfl
theorem H4(b:Nat):bitsOf .andNot .u64 (b:Int) 9223372036854775808=((b % 9223372036854775808:Nat):Int):=by
 have e:BitVec.ofInt 64 (b:Int)=BitVec.ofNat 64 b:=BitVec.ofInt_natCast ..;have f : ~~~(BitVec.ofInt 64 9223372036854775808)=BitVec.ofNat 64 (2 ^ 63 - 1):=by decide
 have j:(BitVec.ofNat 64 b &&& BitVec.ofNat 64 (2 ^ 63 - 1)).toNat=b % 9223372036854775808:=by rw[BitVec.toNat_and,BitVec.toNat_ofNat,BitVec.toNat_ofNat,Nat.mod_eq_of_lt (show 2 ^ 63 - 1<2 ^ 64 by decide),Nat.and_two_pow_sub_one_eq_mod];omega
 unfold bitsOf;show u64.wrap ((BitVec.ofInt 64 (b:Int) &&& ~~~(BitVec.ofInt 64 9223372036854775808)).toNat:Int)=_;rw[e,f,j];have:=Nat.mod_lt b (show 0<9223372036854775808 by decide);generalize b % 9223372036854775808=r at this;simp only[IntKind.wrap,IntKind.min,IntKind.max,IntKind.bits,IntKind.signed]
 first | omega | (simp;omega)
theorem Iv(b:Nat):(bits BinOp.andNot u64 (b:Int) 9223372036854775808).toNat=b % 9223372036854775808:=by
 rw[show bits BinOp.andNot u64 (b:Int) 9223372036854775808=bitsOf .andNot .u64 (b:Int) 9223372036854775808 from rfl,H4,Int.toNat_natCast]
theorem Pure.LS{P:Program}{f:FuncId}{fn:Func}(D:P.funcs[f]? = some fn)(q:(fn.name == "runtime.NumGoroutine")=false)(hb:fn.body.isNone=false){β:Bool}{a:QJ}
  (h:∀(b:Nat) w,Calls P f #[.float .f64 b] w fun e w'=>e = .returned (.float .f64 (b % 9223372036854775808))∧w'=w):Pure P f [.p β .flt a] (.p false .flt (xC a)):=by
 refine⟨⟨fn,D,q,hb⟩,fun Bw w C z E j=>?_⟩;match B:C.toList,j with
 | [v0],j =>
  have u:=j.1;simp only[V,ai]at u;obtain⟨-,m,u,I⟩:=u;subst u I;have:C = #[.float .f64 m]:=Array.ext' B;subst this;refine(h m w).mono fun r w' ⟨J,L⟩=>⟨_,J,by subst L;exact(Kept.refl (lJ z)).below,?_⟩
  simp only[V,ai];exact⟨rfl,_,rfl,Kt m⟩
end Go.Tv
