import Derived.Test.YtobbjfkfmdiklaaGreatDoorTvSam
import Derived.KernelRfl
import Derived.WalkKit
import Derived.Lib.TrailingZeros
import Derived.LoopN
namespace Go.Tv
open Go
open Go.IntKind (u32 u64)
theorem tt:True:=trivial
def Ts:Nat→List Prop→List Prop
 | 0,l=>l
 | n+1,l=>True::Ts n l
theorem tr:∀(n:Nat) {l:List Prop},pj l→pj (Ts n l)
 | 0,_,h=>h
 | n+1,_,h=>⟨trivial,tr n h⟩
theorem sI{α:Type}{a b:α}(h:some a=some b):a=b:=Option.some.inj h
theorem nl{a b:Nat}(h:Nat.ble a b=true):a≤b:=Nat.le_of_ble_eq_true h
def pO{p:Prop}(_:p):Prop:=p
section
variable{P:Program}{n:NS}{Bw:Nat→Prop}{w0:cr P}{σ:St}{Q:Exit→St→Prop}{tb:bQ}
theorem gl(j:List G)(f:QV){l:List (Nat×af)}{m:Qk}{nx pn:Nat}(h:(goal j f l m σ,(σ.pn == pn && kU (H3 f) l m nx pn))=(some (want f l m),true)):Le n σ (az l m nx pn):=uV (Prod.mk.inj h).1 (Prod.mk.inj h).2
end
structure PP where
 p:Prop
 h:p
def oc{p:Prop}(h:p):PP:=⟨p,h⟩
def cP:Nat→Nat→List (Nat×Nat×PP)→List Prop
 | 0,_,_=>[]
 | k+1,i,[]=>True::cP k (i+1) []
 | k+1,i,(j,e,c)::r=>match Nat.blt i j,Nat.blt i e with
  | true,_=>True::cP k (i+1) ((j,e,c)::r)
  | false,true=>c.p::cP k (i+1) ((j,e,c)::r)
  | false,false=>c.p::cP k (i+1) r
theorem vG:∀(k i:Nat) (l:List (Nat×Nat×PP)),pj (cP k i l)
 | 0,_,_=>trivial
 | k+1,i,[]=>⟨trivial,vG k (i+1) []⟩
 | k+1,i,(j,e,c)::r=>by
  unfold cP;split
  ·exact⟨trivial,vG k (i+1) _⟩
  ·exact⟨c.h,vG k (i+1) _⟩
  ·exact⟨c.h,vG k (i+1) _⟩
def an{p:Prop}(h:p):PP:=oc (And.intro h trivial)
def ct:List Bool:=List.replicate 40 true
def a0:An:=⟨[],[]⟩
section
variable{P:Program}{fid:FuncId}{args:List af}{hin:Qk}
def oP{r:af}(_:Pure P fid args r)(fl:List Bool:=[])(cn:List Bool:=ct):vE:=⟨r,fl,false,cn,[],[],none⟩
def oO{r:af}{hout:Qk}(_:jy P fid args hin r hout)(g:QV)(fl:List Bool:=[])(cn:List Bool:=ct):vE:=⟨r,fl,true,cn,g,hout,none⟩
def oD{x:Value}(_:jR P fid args hin x)(g:QV)(fl:List Bool:=[])(cn:List Bool:=ct):vE:=⟨.unk,fl,true,cn,g,[],some x⟩
end
theorem gg{n:NS}{σ:St}(j:List G)(f:QV){l:List (Nat×af)}{m:Qk}{nx pn:Nat}(h:(goal j f l m σ,(σ.pn == pn && kU (H3 f) l m nx pn))=(some (want f l m),true):=by kernel_rfl):Le n σ (az l m nx pn):=gl j f h
theorem g2{α:Type}{p q:Prop}[Decidable p][Decidable q]{x:Option α}{r:α}(h:(if p then(if q then x else none)else none)=some r):p∧q∧x=some r:=⟨(aD h).1,aD (aD h).2⟩
theorem g3{α:Type}{p q s:Prop}[Decidable p][Decidable q][Decidable s]{x:Option α}{r:α}(h:(if p then(if q then(if s then x else none)else none)else none)=some r):p∧q∧s∧x=some r:=⟨(aD h).1,g2 (aD h).2⟩
theorem g4{α:Type}{p q s t:Prop}[Decidable p][Decidable q][Decidable s][Decidable t]{x:Option α}{r:α}(h:(if p then(if q then(if s then(if t then x else none)else none)else none)else none)=some r):p∧q∧s∧t∧x=some r:=⟨(aD h).1,g3 (aD h).2⟩
theorem aN{α:Type}{b:Bool}{x y:Option α}{r:α}(h:(if b=true then x else y)=some r):(b=true∧x=some r)∨(b=false∧y=some r):=by
 cases b with
 | true=>exact .inl ⟨rfl,h⟩
 | false=>exact .inr ⟨rfl,h⟩
section
variable{P:Program}{n:NS}{Bw:Nat→Prop}{w0:cr P}{σ σ1:St}{Q:Exit→St→Prop}{tb:bQ}
def iQ(P:Program)(tb:bQ)(an:An)(n:NS)(ops:Array Oper)(σ:St):St :=
 match EU P tb an n σ.nx ops ops.toList 0 σ.s σ.h with
 | some (s,h,_)=>⟨s,h,σ.nx+8*ops.size,σ.pn⟩
 | none=>σ
def iH(P:Program)(tb:bQ)(an:An)(n:NS)(ops:Array Oper)(σ:St):Option (List Prop) :=
 match EU P tb an n σ.nx ops ops.toList 0 σ.s σ.h with
 | some (_,_,c)=>some c
 | none=>none
def Bu(P:Program)(tb:bQ)(an:An)(n:NS)(ops:Array Oper)(σ:St):St :=
 match AM P tb an n σ.nx ops ops.toList 0 σ.s σ.h with
 | some (s,h,_,_)=>⟨s,h,σ.nx+8*ops.size,σ.pn⟩
 | none=>σ
def BG(P:Program)(tb:bQ)(an:An)(n:NS)(ops:Array Oper)(σ:St):Option (List Prop) :=
 match AM P tb an n σ.nx ops ops.toList 0 σ.s σ.h with
 | some (_,_,c,f)=>match FH ops (qG f) (qy f) (pV ops) ops.size 0 (Array.replicate ops.size false)with
  | true=>some c
  | false=>none
 | none=>none
def AX(P:Program)(tb:bQ)(an:An)(n:NS)(ops:Array Oper)(r:Nat)(σ:St):Option (List Prop×Value) :=
 match o9 P tb an n σ.nx ops r ops.toList 0 σ.s σ.h with
 | some (_,_,c,y)=>some (c,y)
 | none=>none
theorem ab{d:Code}(h:W P n Bw w0 d σ1 Q):∀σ',Le n σ' σ1→yI P n Bw w0 d Q .normal σ':=fun _ hl=>IE hl h
def Ej(f:List G)(σ:St):St :=
 match oY f σ with
 | some σ'=>σ'
 | none=>σ
theorem lZ(j:List G){c:Code}(h:(oY j σ).isSome=true)(f:W P n Bw w0 c (Ej j σ) Q):W P n Bw w0 c σ Q:=by
 unfold Ej at f;split at f
 ·rename_i σ' e;exact IE (sY e) f
 ·rename_i e;rw[e]at h;cases h
def HU:Qz→QJ
 | some (.nds _ _ f none)=>some f.length
 | _=>none
def Kr(id i:Nat)(f:Bool)(σ:St):St :=
 match σ.h id with
 | some (.nds e j p none)=>⟨σ.s,bG (bG σ.h id (some (.nds e j p (some (i,f,σ.nx))))) σ.nx (some (wi j f (p.getD i Nd.z))),σ.nx+1,σ.pn⟩
 | _=>σ
theorem IB{id i m:Nat}(f:Bool)(hi:i<m)(hm:HU (σ.h id)=some m):Le n σ (Kr id i f σ):=fun P Bw w0 a w q=>by
 unfold HU at hm;split at hm
 ·rename_i e J L p;cases hm;obtain⟨ρ,φ,A,B,x⟩:=q.ex;have hn:ρ σ.nx=none:=by
   cases C:ρ σ.nx with
   | none=>rfl
   | some u=>have:=x _ _ C;omega
  obtain⟨v,_,D,E,I⟩:=A.KS f p hn hi;unfold Kr;rw[p];refine⟨⟨_,_,D,B.mono E I,fun j u z=>?_⟩,q.pn⟩;by_cases e:j=σ.nx
  ·subst e;exact Nat.lt_succ_self _
  ·rw[aR _ _ e]at z;exact Nat.lt_succ_of_lt (x _ _ z)
 ·cases hm
theorem yc(id i:Nat)(f:Bool){c:Code}{m:Nat}(hi:i<m)(hm:HU (σ.h id)=some m)(j:W P n Bw w0 c (Kr id i f σ) Q):W P n Bw w0 c σ Q:=IE (IB f hi hm) j
theorem Hj(f:cb P tb)(an:An){id:Nat}{ops:Array Oper}(q:List (Nat×Nat×PP))
  (h:iH P tb an n ops σ=some (cP ops.size 0 q)) (j:∀σ',Le n σ' (iQ P tb an n ops σ)→Q .normal σ'):W P n Bw w0 (.region id ops false) σ Q:=by
 unfold iH at h;unfold iQ at j;split at h
 ·rename_i s u c p;cases h;rw[p]at j;exact BH f an p (vG _ _ _) (j _ (Le.refl _))
 ·cases h
theorem Mm(f:cb P tb)(an:An){id:Nat}{ops:Array Oper}{d:Code}(j:List (Nat×Nat×PP))
  (h:iH P tb an n ops σ=some (cP ops.size 0 j)) (p:W P n Bw w0 d (iQ P tb an n ops σ) Q):W P n Bw w0 (.seq (.region id ops false) d) σ Q :=
 ag (Hj f an j h (ab p))
theorem Lz(f:cb P tb)(hm:P.follows .mixedOrders=true)(an:An){id:Nat}{ops:Array Oper}(q:List (Nat×Nat×PP))
  (h:BG P tb an n ops σ=some (cP ops.size 0 q)) (j:∀σ',Le n σ' (Bu P tb an n ops σ)→Q .normal σ'):W P n Bw w0 (.region id ops true) σ Q:=by
 unfold BG at h;unfold Bu at j;split at h
 ·rename_i s v c x p;split at h
  ·rename_i u;cases h;rw[p]at j;exact KY f hm an p u (vG _ _ _) (j _ (Le.refl _))
  ·cases h
 ·cases h
theorem NC(f:cb P tb)(hm:P.follows .mixedOrders=true)(an:An){id:Nat}{ops:Array Oper}{d:Code}(j:List (Nat×Nat×PP))
  (h:BG P tb an n ops σ=some (cP ops.size 0 j)) (p:W P n Bw w0 d (Bu P tb an n ops σ) Q):W P n Bw w0 (.seq (.region id ops true) d) σ Q :=
 ag (Lz f hm an j h (ab p))
def cG:Nat→Nat→Prop→List Prop
 | 0,_,_=>[]
 | k+1,0,p=>p::Ts k []
 | k+1,i+1,p=>True::cG k i p
theorem JE:∀(k i:Nat) {p:Prop},p→pj (cG k i p)
 | 0,_,_,_=>trivial
 | k+1,0,_,h=>⟨h,tr k trivial⟩
 | k+1,i+1,_,h=>⟨trivial,JE k i h⟩
theorem JI(j:cb P tb)(i:Nat){α:Type}{p:Prop}[Decidable p]{u:Option α}{r:α}(h:(if p then u else none)=some r){id:Nat}{ops:Array Oper}
  (hk:iH P tb a0 n ops σ=some (cG ops.size i p)) (f:u=some r→∀σ',Le n σ' (iQ P tb a0 n ops σ)→Q .normal σ'):W P n Bw w0 (.region id ops false) σ Q:=by
 obtain⟨hp,hu⟩:=aD h
 replace f:=f hu
 unfold iH at hk;unfold iQ at f;split at hk
 ·rename_i s v c q;cases hk;rw[q]at f;exact BH j a0 q (JE _ _ hp) (f _ (Le.refl _))
 ·cases hk
theorem MC(f:cb P tb)(i:Nat){α:Type}{p:Prop}[Decidable p]{u:Option α}{r:α}(h:(if p then u else none)=some r){id:Nat}{ops:Array Oper}{d:Code}
  (hk:iH P tb a0 n ops σ=some (cG ops.size i p)) (j:u=some r→W P n Bw w0 d (iQ P tb a0 n ops σ) Q):W P n Bw w0 (.seq (.region id ops false) d) σ Q :=
 ag (JI f i h hk fun hu=>ab (j hu))
theorem LO(f:cb P tb)(i:Nat){fid:FuncId}{args:List af}{r:af}(u:Pure P fid args r){id:Nat}{ops:Array Oper}
  (h:iH P tb ⟨[],[(i,oP u)]⟩ n ops σ=some (cP ops.size 0 [(i,i,oc u)])) (j:∀σ',Le n σ' (iQ P tb ⟨[],[(i,oP u)]⟩ n ops σ)→Q .normal σ'):W P n Bw w0 (.region id ops false) σ Q:=Hj f _ _ h j
theorem Mz(f:cb P tb)(i:Nat){fid:FuncId}{args:List af}{r:af}(u:Pure P fid args r){id:Nat}{ops:Array Oper}{d:Code}
  (h:iH P tb ⟨[],[(i,oP u)]⟩ n ops σ=some (cP ops.size 0 [(i,i,oc u)])) (j:W P n Bw w0 d (iQ P tb ⟨[],[(i,oP u)]⟩ n ops σ) Q):W P n Bw w0 (.seq (.region id ops false) d) σ Q:=Mm f _ _ h j
theorem L4(f:cb P tb)(i:Nat)(g:QV){fid:FuncId}{args:List af}{hin hout:Qk}{r:af}(u:jy P fid args hin r hout){id:Nat}{ops:Array Oper}
  (h:iH P tb ⟨[],[(i,oO u g)]⟩ n ops σ=some (cP ops.size 0 [(i,i,oc u)])) (j:∀σ',Le n σ' (iQ P tb ⟨[],[(i,oO u g)]⟩ n ops σ)→Q .normal σ'):W P n Bw w0 (.region id ops false) σ Q:=Hj f _ _ h j
theorem MU(f:cb P tb)(i:Nat)(g:QV){fid:FuncId}{args:List af}{hin hout:Qk}{r:af}(u:jy P fid args hin r hout){id:Nat}{ops:Array Oper}{d:Code}
  (h:iH P tb ⟨[],[(i,oO u g)]⟩ n ops σ=some (cP ops.size 0 [(i,i,oc u)])) (j:W P n Bw w0 d (iQ P tb ⟨[],[(i,oO u g)]⟩ n ops σ) Q):W P n Bw w0 (.seq (.region id ops false) d) σ Q:=Mm f _ _ h j
theorem Nc(f:cb P tb){fid:FuncId}{args:List af}{hin:Qk}{y:Value}(_:jR P fid args hin y)(an:An)(r:Nat){id:Nat}{ops:Array Oper}(j:List (Nat×Nat×PP))
  (h:AX P tb an n ops r σ=some (cP (r+1) 0 j,y)) (p:∀σ',Q (.panic [{ v:=y,recovered:=false }]) σ'):W P n Bw w0 (.region id ops false) σ Q:=by
 unfold AX at h;split at h
 ·rename_i s u c x q;cases h;exact tZ f an r q (vG _ _ _) (p _)
 ·cases h
theorem ML(f:cb P tb)(r:Nat)(g:QV){fid:FuncId}{args:List af}{hin:Qk}{y:Value}(u:jR P fid args hin y){id:Nat}{ops:Array Oper}
  (h:AX P tb ⟨[],[(r,oD u g)]⟩ n ops r σ=some (cP (r+1) 0 [(r,r,oc u)],y)) (j:∀σ',Q (.panic [{ v:=y,recovered:=false }]) σ'):W P n Bw w0 (.region id ops false) σ Q:=Nc f u _ r _ h j
def Lt:af→Option Bool
 | .p _ .bool b=>some b
 | _=>none
theorem vp{x:af}{b:Bool}(h:Lt x=some b):∃β,x = .p β .bool b:=by
 unfold Lt at h;split at h
 ·rename_i β f;cases h;exact⟨β,rfl⟩
 ·cases h
theorem aC{b:Bool}{α:Type}{u v:Option α}{r:α}{c:Operand}{x y:Code}(h:(if b=true then u else v)=some r)
  (h1:b=true→u=some r→W P n Bw w0 x σ Q) (h2:b=false→v=some r→W P n Bw w0 y σ Q) (hc:Lt (ev σ.s c)=some b:=by kernel_rfl):W P n Bw w0 (.cond c x y) σ Q:=by
 obtain⟨β,e⟩:=vp hc;exact CP e (fun hb=>h1 hb (MF hb h)) (fun hb=>h2 hb (KO hb h))
theorem zB{b:Bool}(hb:b=true){c:Operand}{x y:Code}(h1:W P n Bw w0 x σ Q)(hc:Lt (ev σ.s c)=some b:=by kernel_rfl):W P n Bw w0 (.cond c x y) σ Q:=by
 obtain⟨β,e⟩:=vp hc;exact CP e (fun _=>h1) (fun h=>by rw[hb]at h;cases h)
theorem Jq{b:Bool}(hb:b=false){c:Operand}{x y:Code}(h1:W P n Bw w0 y σ Q)(hc:Lt (ev σ.s c)=some b:=by kernel_rfl):W P n Bw w0 (.cond c x y) σ Q:=by
 obtain⟨β,e⟩:=vp hc;exact CP e (fun h=>by rw[hb]at h;cases h) (fun _=>h1)
theorem br{α β:Type}{m:Option α}{k:α→Option β}{r:β}{c:Code}(h:m.bind k=some r)(f:α→St)
  (h1:∀v,m=some v→W P n Bw w0 c σ (oa n f v)) (h2:∀v,k v=some r→∀σ',Le n σ' (f v)→Q .normal σ'):W P n Bw w0 c σ Q:=by
 obtain⟨v,j,p⟩:=ai h;refine(h1 v j).mono fun e σ' q=>?_
 obtain⟨rfl,hl⟩:=q;exact h2 v p σ' hl
theorem DK{α β:Type}{m:Option α}{k:α→Option β}{r:β}{c:Code}(h:m.bind k=some r)(F:α→Exit→St→Prop)
  (h1:∀v,m=some v→W P n Bw w0 c σ (F v)) (h2:∀v,k v=some r→∀e σ',F v e σ'→Q e σ'):W P n Bw w0 c σ Q:=by
 obtain⟨v,f,j⟩:=ai h;exact(h1 v f).mono (h2 v j)
theorem kS{S T β:Type}{j:S→Option (S⊕T)}{k:T→Option β}{r:β}{c:Code}{x:S}(h:(iter j x).bind k=some r)(f:S→St)(F:T→Exit→St→Prop)(hl:Le n σ (f x))
  (step:∀y o,j y=some o→W P n Bw w0 c (f y) (nW n f F o)) (h2:∀v,k v=some r→∀e σ',F v e σ'→Q e σ'):W P n Bw w0 (.loop c) σ Q:=by
 obtain⟨v,p,q⟩:=ai h;exact(KZ f F p hl step).mono (h2 v q)
theorem cz{S T β:Type}{p:S→Option (S⊕T)}{k:T→Option β}{r:β}{c:Code}{x:S}(h:(iter p x).bind k=some r)(f:S→St)(j:Nat)(g:T→St)(hl:Le n σ (f x))
  (step:∀y o,p y=some o→W P n Bw w0 c (f y) (nW n f (fD n j g) o)) (h2:∀v,k v=some r→∀σ',Le n σ' (g v)→Q (.exit j) σ'):W P n Bw w0 (.loop c) σ Q:=by
 refine kS h f (fD n j g) hl step fun v hk e σ' q=>?_
 obtain⟨rfl,hl⟩:=q;exact h2 v hk σ' hl
theorem eN{S:Type}{f:S→St}{v a:S}(h:some a=some v)(hl:Le n σ1 (f a)):∀σ',Le n σ' σ1→oa n f v .normal σ':=by cases h;exact cJ hl
theorem eB{S T:Type}{f:S→St}{F:T→Exit→St→Prop}{a:S}{r:S⊕T}(h:some (Sum.inl a)=some r)(hl:Le n σ1 (f a)):∀σ',Le n σ' σ1→nW n f F r .normal σ':=by cases h;exact Ky hl
theorem eX{S T:Type}{f:S→St}{g:T→St}{a:T}{r:S⊕T}{j:Nat}(h:some (Sum.inr a)=some r)(hl:Le n σ1 (g a)):∀σ',Le n σ' σ1→nW n f (fD n j g) r (.exit j) σ':=by cases h;exact dL (bT hl)
end
end Go.Tv
namespace Go.Tv
open Go Go.RowKit
open Go.IntKind (u32 u64)
def pX(x:Int):Int:=if x == 0 then 32 else JM.getD (bits BinOp.and u32 x (-x % 4294967296)*125613361 % 4294967296 / 134217728).toNat 0
theorem Ih(y:Int):(y % 4294967296 / 134217728).toNat<32:=by omega
theorem Hm:∀i,i<32→wrap64 (JM.getD i 0)=JM.getD i 0:=by decide +kernel
theorem HB{x:Int}(h:(x == 0)=false):wrap64 (JM.getD (bits BinOp.and u32 x (-x % 4294967296)*125613361 % 4294967296 / 134217728).toNat 0)=pX x:=by
 rw[Hm _ (Ih _)];simp only[pX,h,Bool.false_eq_true,if_false]
theorem Ff{x:Int}(h:(x == 0)=true):pX x=32:=by simp only[pX,h,if_true]
theorem Pure.LB{P:Program}{f:FuncId}{fn:Func}(C:P.funcs[f]? = some fn)(q:(fn.name == "runtime.NumGoroutine")=false)(hb:fn.body.isNone=false){β:Bool}{x:Int}
  (h:∀w,tK P w→Calls P f #[.int .u32 x] w fun e w'=>e = .returned (.int .i64 (pX x))∧w'=w):Pure P f [.p β (.int .u32) x] (.p false (.int .i64) (pX x)):=by
 refine⟨⟨fn,C,q,hb⟩,fun Bw w B u D j=>?_⟩;match z:B.toList,j with
 | [v0],j =>
  have E:=bV j.1;subst E;have:B = #[.int .u32 x]:=Array.ext' z;subst this;refine(h w u).mono fun r w' ⟨h1,h2⟩=>⟨_,h1,by subst h2;exact(Kept.refl (lT u)).below,dy _ _ _⟩
end Go.Tv
namespace Go.Tv
open Go
open Go.IntKind (u32 u64)
def MN(P:Program)(t:TypeId):Option (List af):=((P.info? t).bind (·.zero)).map fun z=>z.cells.toList.map kf
def MB(P:Program)(t:TypeId)(sz Lw:Nat):Bool :=
 match P.info? t with
 | some i=>match i.zero with
  | some z=>i.size == sz && i.bytes == Lw && z.cells.size == sz && z.cells.toList.all (·.oneCell')
  | none=>false
 | none=>false
theorem L0{P:Program}{t:TypeId}{ti:TI}(h1:MN P t=some ti.z)(h2:MB P t ti.size ti.bytes=true):
  ∃i z,P.info? t=some i∧i.zero=some z∧i.size=ti.size∧i.bytes=ti.bytes∧z.cells.toList.map kf=ti.z∧z.cells.size=ti.size∧∀c∈z.cells.toList,c.oneCell'=true:=by
 unfold MB at h2;split at h2
 ·rename_i i hi;split at h2
  ·rename_i z hz;simp only[Bool.and_eq_true,beq_iff_eq,List.all_eq_true]at h2;obtain⟨⟨⟨a,b⟩,c⟩,d⟩:=h2;unfold MN at h1;rw[hi]at h1;simp only[Option.bind,hz,Option.map,Option.some.injEq]at h1;exact⟨i,z,hi,hz,a,b,h1,c,d⟩
  ·cases h2
 ·cases h2
section
variable{P:Program}{n:NS}{Bw:Nat→Prop}{w0:cr P}{σ:St}{Q:Exit→St→Prop}{tb:bQ}
theorem zm(d:Nat){w:World}{t j:TypeId}(h:P.underlying t=some (.slice j))(f:Option Addr)(l c:Nat):(Op.equalIn (d+1) t (.slice f l c) (.slice none 0 0)).run P w = .ok f.isNone w:=by
 cases f <;> simp[Op.equalIn,run_underlying h]
def rQ(P:Program)(n:NS)(Bw:Nat→Prop)(w0:cr P)(c:Code)(Q:Exit→St→Prop):Nat→Exit→St→Prop
 | 0,.normal,_=>False
 | k+1,.normal,σ=>W P n Bw w0 c σ (rQ P n Bw w0 c Q k)
 | _,e,σ=>Q e σ
theorem uY{c:Code}{k:Nat}{e:Exit}(f:e ≠ .normal):rQ P n Bw w0 c Q k e σ=Q e σ:=by
 cases e <;> first | exact absurd rfl f | (cases k <;> rfl)
theorem HH(k:Nat){c:Code}(h:W P n Bw w0 c σ (rQ P n Bw w0 c Q k)):W P n Bw w0 (.loop c) σ Q:=fun a w f=>by
 refine wp_loop_rounds (k+1) ?_;have key:∀k σ,W P n Bw w0 c σ (rQ P n Bw w0 c Q k)→∀a w,R n Bw w0 σ a w→Code.rounds P c (fun e j p=>∃σ',R n Bw w0 σ' j p∧Q e σ') (k+1) a w:=by
  intro k;induction k with
  | zero =>
   intro σ h a w f;refine wp_mono (h a w f) fun e j p ⟨σ',h1,h2⟩=>?_
   cases e with
   | normal=>exact h2.elim
   | _=>exact⟨σ',h1,by rw[uY (by simp)]at h2;exact h2⟩
  | succ k q =>
   intro σ h a w f;refine wp_mono (h a w f) fun e j p ⟨σ',h1,h2⟩=>?_
   cases e with
   | normal=>exact q σ' h2 j p h1
   | _=>exact⟨σ',h1,by rw[uY (by simp)]at h2;exact h2⟩
 exact key k σ h a w f
theorem H8{c:Code}{k:Nat}{σ1:St}(h:W P n Bw w0 c σ1 (rQ P n Bw w0 c Q k)):∀σ',Le n σ' σ1→rQ P n Bw w0 c Q (k+1) .normal σ':=fun _ hl=>IE hl h
theorem Nz{c:Code}{k j:Nat}{σ1:St}(h:∀σ',Le n σ' σ1→Q (.exit j) σ'):∀σ',Le n σ' σ1→rQ P n Bw w0 c Q k (.exit j) σ':=fun σ' hl=>by rw[uY (by simp)];exact h σ' hl
theorem Dd{c:Code}{k:Nat}(h:Q .ret σ):rQ P n Bw w0 c Q k .ret σ:=by rw[uY (by simp)];exact h
theorem Kf(z:cb P tb){id:Nat}{ops:Array Oper}{B o1:Oper}{d e:Nat}{t Y el:TypeId}{β:Bool}{A:Ty}{xs:List A.den}{c:Code}
  (C:ops = #[B,o1]) (hd:B.dst=some d) (Z:o1.dst=some e) (ho:o1.op = .binOp .eql t (.tmp d) (.const (.slice none 0 0)) Y) (hg:o1.guard=none) (D:EC n (some e)=true)
  (E:pB P tb a0 n σ.nx ops 0 B σ.s σ.h=some (.p β (.slice A) xs,[],True)) (hu:P.underlying t=some (.slice el))
  (hq:∀b,(b=true→xs=[])→W P n Bw w0 c ⟨kr (kr σ.s (some d) (.p β (.slice A) xs)) (some e) (.p false .bool b),σ.h,σ.nx+16,σ.pn⟩ Q):W P n Bw w0 (.seq (.region id ops false) c) σ Q:=by
 refine ag fun a w M=>?_
 obtain⟨ρ,φ,q1,q2,q3⟩:=M.ex;refine wp_region ?_;rw[show ops.size=2 by rw[C];rfl,show List.range 2=[0,1]from rfl];rw[wpOps_cons];refine ke (done:=fun j=>j<0) z ⟨ρ,φ,q1,q2,fun id u hu=> .inl (q3 id u hu)⟩ (by rw[C];rfl) (Nat.lt_irrefl 0) E trivial fun a1 N hm=>?_
 rw[wpOps_cons];obtain⟨I,φ1,r1,O,r3⟩:=hm.ex;have J:=O.sl d;rw[hd,kr,aB]at J;simp only[V,ah]at J;obtain⟨-,f,l,X,q,⟨hl,-⟩,L⟩:=J;have hb:f.isNone=true→xs=[]:=fun hn=>by
  cases xs with
  | nil=>rfl
  | cons y ys =>obtain⟨b,e,-⟩:=L 0 (by simp);rw[e]at hn;cases hn
 unfold wpOp;rw[C];simp only[List.getElem?_toArray,List.getElem?_cons_succ,List.getElem?_cons_zero];rw[if_pos (by unfold Region.wanted;rw[hg])];refine .inl ?_;refine Good.aG (post:=fun v w'=>v = .bool f.isNone∧w'=N) (v:= .bool f.isNone) (w':=N) ?_ ⟨rfl,rfl⟩ _ _ ?_
 ·simp only[execOp,ho,Act.eval,←q];rw[Sem.run_bind,Sem.run_bind,bJ (by intro cs e;cases e) (by intro e;cases e),Result.andThen_ok];rw[show binOp .eql t (.slice f l X) (.slice none 0 0)=(do pure (.bool (←Op.equal t (.slice f l X) (.slice none 0 0)))) by cases f <;> rfl];simp only[Op.equal,Op.maxDepth,Sem.run_bind,zm 9999 hu,Result.andThen_ok];rfl
 ·rintro v w' ⟨rfl,rfl⟩;refine⟨⟨kr (kr σ.s (some d) (.p β (.slice A) xs)) (some e) (.p false .bool f.isNone),σ.h,σ.nx+16,σ.pn⟩,⟨⟨I,φ1,r1,?_,fun id u hu=>?_⟩,M.pn⟩,hq _ hb⟩
  ·have:=O.Kb (x:= .p false .bool f.isNone) (jl false f.isNone) D;rw[hd]at this;rw[Z];exact this
  ·rcases r3 id u hu with h1 | ⟨i,j,h1,h2,h3⟩ <;> simp only <;> omega
end
def wu(a:QJ):QJ:=a.map fun n=>n % 9223372036854775808
theorem IQ(b:Nat):eD (b % 9223372036854775808)=wu (eD b):=by
 have f:FloatKind.f64.format.signWeight=9223372036854775808:=rfl;have e:(FloatKind.f64.decode (b % 9223372036854775808)).isNaN=(FloatKind.f64.decode b).isNaN:=by
  unfold FloatKind.decode Ieee.Format.read;rw[f];simp only[Nat.mod_mod];split
  ·rfl
  ·split
   ·rfl
   ·split <;> rfl
 unfold eD wu;rw[e];split <;> rfl
theorem G4(b:Nat):bitsOf .andNot .u64 (b:Int) 9223372036854775808=((b % 9223372036854775808:Nat):Int):=by
 have h1:BitVec.ofInt 64 (b:Int)=BitVec.ofNat 64 b:=BitVec.ofInt_natCast ..;have h2 : ~~~(BitVec.ofInt 64 9223372036854775808)=BitVec.ofNat 64 (2 ^ 63 - 1):=by decide
 have f:(BitVec.ofNat 64 b &&& BitVec.ofNat 64 (2 ^ 63 - 1)).toNat=b % 9223372036854775808:=by rw[BitVec.toNat_and,BitVec.toNat_ofNat,BitVec.toNat_ofNat,Nat.mod_eq_of_lt (show 2 ^ 63 - 1<2 ^ 64 by decide),Nat.and_two_pow_sub_one_eq_mod];omega
 unfold bitsOf;show u64.wrap ((BitVec.ofInt 64 (b:Int) &&& ~~~(BitVec.ofInt 64 9223372036854775808)).toNat:Int)=_;rw[h1,h2,f];have:=Nat.mod_lt b (show 0<9223372036854775808 by decide);generalize b % 9223372036854775808=r at this;simp only[IntKind.wrap,IntKind.min,IntKind.max,IntKind.bits,IntKind.signed]
 first | omega | (simp;omega)
theorem HD(b:Nat):(bits BinOp.andNot u64 (b:Int) 9223372036854775808).toNat=b % 9223372036854775808:=by
 rw[show bits BinOp.andNot u64 (b:Int) 9223372036854775808=bitsOf .andNot .u64 (b:Int) 9223372036854775808 from rfl,G4,Int.toNat_natCast]
theorem Pure.Kj{P:Program}{f:FuncId}{fn:Func}(D:P.funcs[f]? = some fn)(q:(fn.name == "runtime.NumGoroutine")=false)(hb:fn.body.isNone=false){β:Bool}{a:QJ}
  (h:∀(b:Nat) w,Calls P f #[.float .f64 b] w fun e w'=>e = .returned (.float .f64 (b % 9223372036854775808))∧w'=w):Pure P f [.p β .flt a] (.p false .flt (wu a)):=by
 refine⟨⟨fn,D,q,hb⟩,fun Bw w C z E j=>?_⟩;match B:C.toList,j with
 | [v0],j =>
  have u:=j.1;simp only[V,ah]at u;obtain⟨-,m,u,I⟩:=u;subst u I;have:C = #[.float .f64 m]:=Array.ext' B;subst this;refine(h m w).mono fun r w' ⟨h1,h2⟩=>⟨_,h1,by subst h2;exact(Kept.refl (lT z)).below,?_⟩
  simp only[V,ah];exact⟨rfl,_,rfl,IQ m⟩
end Go.Tv
