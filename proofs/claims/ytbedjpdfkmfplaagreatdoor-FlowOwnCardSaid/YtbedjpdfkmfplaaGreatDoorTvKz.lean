/- What an operation comes to: great arrays, places within data, floats, bound functions. -/
import Derived.Test.YtbedjpdfkmfplaaGreatDoorTvL
import Derived.Test.YtbedjpdfkmfplaaGreatDoorTvKm
namespace Go.Tv
open Go Go.RowKit
def aK1(tb:Tab)(t:TypeId):Option (IntKind×Nat) :=
 match tb.find t with
 | some ti=>match ti.k with
  | .ar n e=>match tb.find e with
   | some te=>match te.k with
    | .int k=>if 16<n then some (k,n)else none
    | _=>none
   | none=>none
  | _=>none
 | none=>none
def aJe(tb:Tab)(t:TypeId):Option (IntKind×Nat) :=
 match aK1 tb t with
 | some r=>some r
 | none=>match tb.find t with
  | some ti=>match ti.k with
   | .st ((0,e)::_)=>aK1 tb e
   | _=>none
  | none=>none
def Ty.big:Ty→Bool
 | .prod (.arr _ _) _=>true
 | _=>false
def aHL(tb:Tab)(t:TypeId):Option (TypeId×TI) :=
 match tb.find t with
 | some ti=>match ti.k with
  | .sl e=>match tb.find e with
   | some te=>some (e,te)
   | none=>none
  | _=>none
 | none=>none
theorem xS{P:Program}{tb:Tab}(htb:TabOK P tb){t e:TypeId}{te:TI}(h:aHL tb t=some (e,te)):∃ti,TIok P t ti∧ti.k = .sl e∧TIok P e te:=by
 unfold aHL at h
 split at h
 ·rename_i ti ht
  split at h
  ·rename_i e' hk
   split at h
   ·rename_i te' hte
    cases h
    exact⟨ti,htb.find ht,hk,htb.find hte⟩
   ·cases h
  ·cases h
 ·cases h
def aKF(fl:Bool)(tb:Tab)(new:Nat)(t:TypeId)(len:Nat)(is:List Nat)(xs:List AVal):Option iL :=
 match aHL tb t with
 | some (_,te)=>if(fl || te.T.isNone)=true∧is=List.range len∧xs.all (fun x=>(cellsOf x).all AVal.cell && (cellsOf x).length == te.size)=true∧len*te.size≤16777216 then
   some (.sl new,[(new,some (.vrow len te.size (xs.flatMap cellsOf)))],True)else none
 | none=>none
def aJ4(tb:Tab)(t:TypeId)(x:AVal)(h:Nat→Option Obj):Option iL :=
 match x with
 | .sl id=>match h id with
  | some (.vrow n _ _)=>match aHL tb t with
   | some _=>some (.p false (.int .i64) (n:Int),[],True)
   | none=>none
  | _=>none
 | _=>none
def aI8(tb:Tab)(t:TypeId)(x k:AVal)(cok:Bool):Option iL :=
 match x,k with
 | .p _ (.mapi k1 k2) kv,.p _ (.int k') i=>match tb.find t with
  | some ti=>match ti.k with
   | .mp kt et=>match tb.find kt,tb.find et with
    | some tk,some te=>match tk.k with
     | .int k1'=>if k1'=k1∧k'=k1∧te.T=some (.int k2)then some (aG0 k2 cok (bG (α:=Int) (.int k1) kv i),[],True)else none
     | _=>none
    | _,_=>none
   | _=>none
  | none=>none
 | _,_=>none
def aB4(tb:Tab)(new:Nat)(t u:TypeId)(x y:AVal)(h:Nat→Option Obj):Option iL :=
 match y with
 | .p _ .str s=>match tb.find u with
  | some tu=>match tu.k with
   | .str=>match tb.find t with
    | some ti=>match ti.k with
     | .sl e=>match tb.find e with
      | some te=>if te.T=some (.int .u8)∧te.bytes=1 then(match x with
       | .nils=>some (.sl new,[(new,some (.arr e (.int .u8) (dB s)))],([]:List Int).length+List.length (α:=UInt8) s≤140737488355328)
       | .sl id=>match h id with
        | some (.arr e' (.int .u8) xs)=>if e'=e then some (.sl new,[(id,none),(new,some (.arr e (.int .u8) (List.append (α:=Int) xs (dB s))))],List.length (α:=Int) xs+List.length (α:=UInt8) s≤140737488355328)else none
        | _=>none
       | _=>none)else none
      | none=>none
     | _=>none
    | none=>none
   | _=>none
  | none=>none
 | _=>none
def aHv(tb:Tab)(new:Nat)(t u:TypeId)(x y:AVal)(h:Nat→Option Obj):Option iL :=
 match y with
 | .p _ (.int _) n=>match jA tb t,tb.find u with
  | some (e,te,A),some tu=>match tu.k with
   | .int _=>match x with
    | .nils=>some (.sl new,[(new,some (.arr e A (List.replicate (show Int from n).toNat A.zero)))],0≤(show Int from n)∧(([]:List A.den).length+(show Int from n).toNat)*te.bytes≤140737488355328∧([]:List A.den).length+(show Int from n).toNat≤9223372036854775807)
    | .sl id=>match h id with
     | some (.arr e' B xs)=>if q:B=A then(if e'=e then some (.sl new,[(id,none),(new,some (.arr e A ((q ▸ xs:List A.den)++List.replicate (show Int from n).toNat A.zero)))],0≤(show Int from n)∧((q ▸ xs:List A.den).length+(show Int from n).toNat)*te.bytes≤140737488355328∧(q ▸ xs:List A.den).length+(show Int from n).toNat≤9223372036854775807)else none)else none
     | _=>none
    | _=>none
   | _=>none
  | _,_=>none
 | _=>none
def aJW(tb:Tab)(new:Nat)(t u:TypeId)(x y:AVal)(h:Nat→Option Obj):Option iL :=
 match aHv tb new t u x y h with
 | some r=>some r
 | none=>aB4 tb new t u x y h
def aE2(tb:Tab)(t:TypeId)(x:AVal)(h:Nat→Option Obj):Option iL :=
 match x with
 | .mp id=>match h id with
  | some (.mpo K A _)=>match tb.find t with
   | some ti=>match ti.k with
    | .mp _ _=>some (.tup [],[(id,some (.mpo K A []))],True)
    | _=>none
   | none=>none
  | _=>none
 | _=>none
def aKW(tb:Tab)(t:TypeId)(x:AVal):Option iL :=
 match x with
 | .nils=>match tb.find t with
  | some ti=>match ti.k with
   | .sl _=>some (.p false (.int .i64) (0:Int),[],True)
   | _=>none
  | none=>none
 | _=>none
def aGQ(tb:Tab)(new:Nat)(t:TypeId):Option iL :=
 match aJe tb t with
 | some (k,n)=>match tb.find t with
  | some ti=>if(ti.z.take n).all (isZ k)=true∧n≤ti.z.length then some (.adr new 0 ti.size 0,[(new,some (.lmp k n (eA n) (ti.z.drop n)))],True)else none
  | none=>none
 | none=>none
def aKv(new:Nat)(x:AVal):Option iL :=
 match x with
 | .lag k n xs cs=>some (.adr new 0 (n+cs.length) 0,[(new,some (.lmp k n xs cs))],True)
 | _=>none
def aHP(tb:Tab)(t:TypeId)(is:List Nat)(xs:List AVal):Option iL :=
 match aJe tb t with
 | some (k,n)=>match tX tb t is xs with
  | some (.agg ds,[],c)=>if(ds.take n).all (isZ k)=true∧n≤ds.length then some (.lag k n (eA n) (ds.drop n),[],c)else none
  | _=>none
 | none=>none
def aGX(tb:Tab)(t:TypeId)(x:AVal)(h:Nat→Option Obj):Option iL :=
 match x with
 | .loc β T y=>match tb.find t with
  | some ti=>if ti.T=some T∧T.scalar=true then some (.p β T y,[],True)else none
  | none=>none
 | .ada id 0 n i=>match h id with
  | some (.lmp k n' xs _)=>match tb.find t with
   | some ti=>match ti.k with
    | .int k2=>if n'=n∧k2=k then some (.p false (.int k) (gB xs i),[],True)else none
    | _=>none
   | none=>none
  | _=>none
 | .adr id i sz off=>match h id with
  | some (.lmp k n xs cs)=>match tb.find t with
   | some ti=>if ti.k.agg=true∧i*sz+off=0∧ti.size=n+cs.length then some (.lag k n xs cs,[],True)
    else if n≤i*sz+off then(match fN ti cs (i*sz+off - n)with
     | some y=>some (y,[],True)
     | none=>none)else none
   | none=>none
  | some (.vrow _ _ cs)=>match tb.find t with
   | some ti=>match fN ti cs (i*sz+off)with
    | some y=>some (y,[],True)
    | none=>none
   | none=>none
  | _=>none
 | _=>none
def aEO(tb:Tab)(t:TypeId)(x y:AVal)(h:Nat→Option Obj):Option iL :=
 match x with
 | .ada id 0 n i=>match h id with
  | some (.lmp k n' xs cs)=>match y with
   | .p _ (.int k2) v=>match tb.find t with
    | some ti=>if n'=n∧k2=k∧ti.size=1 then some (.unk,[(id,some (.lmp k n' (z9 xs i v) cs))],True)else none
    | none=>none
   | _=>none
  | _=>none
 | .adr id i sz off=>match h id with
  | some (.lmp k n xs cs)=>match tb.find t with
   | some ti=>if(cellsOf y).all AVal.cell=true∧(cellsOf y).length=ti.size∧n≤i*sz+off∧i*sz+off - n+ti.size≤cs.length then
     some (.unk,[(id,some (.lmp k n xs (wr cs (i*sz+off - n) (cellsOf y))))],True)else none
   | none=>none
  | _=>none
 | _=>none
def aKr(x:AVal):Option iL :=
 match x with
 | .loc β T y=>some (.loc β T y,[],True)
 | .p β (.ptr A) q=>if A.big=true then some (.loc β A (q.getD A.zero),[],q.isSome=true)else none
 | _=>none
def aG8(tb:Tab)(t:TypeId)(x:AVal)(f:Nat):Option iL :=
 match x with
 | .loc β T y=>match tb.find t with
  | some ti=>match ti.k with
   | .st fs=>match fs[f]? with
    | some (off,ft)=>match tb.find ft with
     | some fi=>match fi.T with
      | some T'=>match N9 T' T y off with
       | some z=>some (.loc β T' z,[],True)
       | none=>none
      | none=>none
     | none=>none
    | none=>none
   | _=>none
  | none=>none
 | _=>none
def aFg(tb:Tab)(t:TypeId)(x:AVal)(f:Nat):Option iL :=
 match x with
 | .agg cs=>match tb.find t with
  | some ti=>match ti.k with
   | .st fs=>match fs[f]? with
    | some (off,ft)=>match tb.find ft with
     | some fi=>match fN fi cs off with
      | some y=>some (y,[],True)
      | none=>none
     | none=>none
    | none=>none
   | _=>none
  | none=>none
 | _=>none
def aEz(tb:Tab)(t:TypeId)(x i:AVal)(h:Nat→Option Obj):Option iL :=
 match x with
 | .p β (.slice (.arr k n)) xs=>match i with
  | .p _ (.int _) m=>match jA tb t with
   | some (_,te,_)=>if n=te.size then some (.loc β (.arr k n) (xs.getD (show Int from m).toNat (eA n)),[],0≤(show Int from m)∧(show Int from m)<xs.length)else none
   | none=>none
  | _=>none
 | .loc β (.arr k n) xs=>match i with
  | .p _ (.int _) m=>match tb.find t with
   | some ti=>match ti.k with
    | .ar n' e=>match tb.find e with
     | some te=>if n'=n∧te.size=1 then some (.loc β (.int k) (gB xs (show Int from m).toNat),[],0≤(show Int from m)∧(show Int from m)<(n:Int))else none
     | none=>none
    | _=>none
   | none=>none
  | _=>none
 | .adr id j sz off=>match h id with
  | some (.lmp _ _ _ _)=>match i with
   | .p _ (.int _) m=>match tb.find t with
    | some ti=>match ti.k with
     | .ar n e=>match tb.find e with
      | some te=>if te.size=1 then some (.ada id (j*sz+off) n (show Int from m).toNat,[],0≤(show Int from m)∧(show Int from m)<(n:Int))else none
      | none=>none
     | _=>none
    | none=>none
   | _=>none
  | _=>none
 | .sl id=>match h id with
  | some (.vrow n sz _)=>match i with
   | .p _ (.int _) m=>match aHL tb t with
    | some (_,te)=>if te.size=sz then some (.adr id (show Int from m).toNat sz 0,[],0≤(show Int from m)∧(show Int from m)<(n:Int))else none
    | none=>none
   | _=>none
  | _=>none
 | _=>none
def aKz(P:Program)(tb:Tab)(op:BinOp)(t:TypeId)(x y:AVal):Option iL :=
 match x,y with
 | .lag k n xs [],.lag k2 n2 ys []=>match tb.find t with
  | some ti=>match ti.k with
   | .ar n' e=>match tb.find e with
    | some te=>match te.k with
     | .int k'=>if q:n2=n then(if n'=n∧k2=k∧k'=k then(match eqR op (aeq xs (q ▸ ys))with
      | some r=>some (r,[],P.eqGuardType P.depth t=false)
      | none=>none)else none)else none
     | _=>none
    | none=>none
   | _=>none
  | none=>none
 | .p _ .flt a,.p _ .flt b=>match op with
  | .add=>some (.p false .flt (cC .add a b),[],True)
  | .sub=>some (.p false .flt (cC .sub a b),[],True)
  | .mul=>some (.p false .flt (cC .mul a b),[],True)
  | .quo=>some (.p false .flt (cC .quo a b),[],True)
  | _=>none
 | _,_=>none
def aG4(tb:Tab)(st dt:TypeId)(x:AVal)(h:Nat→Option Obj):Option iL :=
 match x with
 | .sl id=>match h id with
  | some (.arr et (.int .u8) xs)=>if dt=st then(match tb.find st with
   | some ti=>match ti.k with
    | .sl e=>match tb.find e with
     | some te=>match te.k with
      | .int .u8=>some (.sl id,[(id,some (.bytes et xs)),(id,some (.bytes et xs))],0<xs.length)
      | _=>none
     | none=>none
    | _=>none
   | none=>none)else none
  | _=>none
 | .p _ .flt a=>match tb.find st,tb.find dt with
  | some _,some di=>match di.k with
   | .int k=>some (.p false (.int k) ((sZ a).getD 0),[],(sZ a).isSome=true∧k.min≤(sZ a).getD 0∧(sZ a).getD 0≤k.max)
   | _=>none
  | _,_=>none
 | _=>none
def aEj(tb:Tab)(t:TypeId)(x:AVal)(lo:AVal)(h:Nat→Option Obj):Option iL :=
 match x with
 | .sl id=>match h id with
  | some (.arr _ _ xs)=>match lo with
   | .p _ (.int _) l=>match jA tb t with
    | some (_,te,_)=>some (.suf id (show Int from l).toNat te.size,[],0≤(show Int from l)∧(show Int from l)≤xs.length)
    | none=>none
   | _=>none
  | _=>none
 | _=>none
def aGS(tb:Tab)(t:TypeId)(x y:AVal)(h:Nat→Option Obj):Option iL :=
 match x with
 | .suf id lo sz=>match h id with
  | some (.arr e' B xs)=>match jA tb t with
   | some (_,te,A)=>match fI h A y with
    | some ys=>if q:B=A then(if sz=te.size then some (.p false (.int .i64) ((min ys.length ((q ▸ xs:List A.den).length - lo):Nat):Int),[(id,some (.arr e' A ((q ▸ xs:List A.den).take lo++(ys.take ((q ▸ xs:List A.den).length - lo)++(q ▸ xs:List A.den).drop (lo+ys.length)))))],True)else none)else none
    | none=>none
   | none=>none
  | _=>none
 | _=>none
def aFr(P:Program)(orc:Option Orc)(f:AVal)(xs:List AVal)(h:Nat→Option Obj):Option iL :=
 match f,orc with
 | .bfn fid fs,some q=>if q.own=false∧q.die=none∧q.fl.any (fun b=>b)=false then(match sP h (fs++xs)with
  | some args=>some (q.r,[],Pure P fid args q.r)
  | none=>none)else none
 | _,_=>none
def aJb(fn:Fn)(first caps:List AVal):Option iL :=
 match fn,first,caps with
 | .func f,x::xs,[]=>some (.bfn f (x::xs),[],True)
 | _,_,_=>none
def kG(P:Program)(tb:Tab)(new:Nat)(orc:Option Orc)(op:Op)(s:Nat→AVal)(h:Nat→Option Obj):Option iL :=
 match op with
 | .alloc t=>aGQ tb new t
 | .box _ x=>aKv new (ev s x)
 | .build t ps=>aHP tb t (ps.toList.map (·.1)) (ps.toList.map fun p=>ev s p.2)
 | .load t x=>aGX tb t (ev s x) h
 | .store t x y=>aEO tb t (ev s x) (ev s y) h
 | .nilCheck x=>aKr (ev s x)
 | .fieldAddr t x f=>aG8 tb t (ev s x) f
 | .field t x f=>aFg tb t (ev s x) f
 | .indexAddr t x i=>aEz tb t (ev s x) (ev s i) h
 | .binOp op t x y _=>aKz P tb op t (ev s x) (ev s y)
 | .convert st dt x=>aG4 tb st dt (ev s x) h
 | .slice t x (some lo) none none=>aEj tb t (ev s x) (ev s lo) h
 | .makeFunc fn first caps=>aJb fn (first.toList.map (ev s)) (caps.toList.map (ev s))
 | .buildSlice t len ps=>aKF orc.isSome tb new t len (ps.toList.map (·.1)) (ps.toList.map fun p=>ev s p.2)
 | .lookup t x k cok=>aI8 tb t (ev s x) (ev s k) cok
 | .call c=>match c.callee with
  | .builtin .len=>match c.args.toList,c.argTypes.toList with
   | [x],[t]=>aJ4 tb t (ev s x) h
   | _,_=>none
  | .builtin .append=>match c.args.toList,c.argTypes.toList with
   | [x,y],[t,u]=>aJW tb new t u (ev s x) (ev s y) h
   | _,_=>none
  | .builtin .clear=>match c.args.toList,c.argTypes.toList with
   | [x],[t]=>aE2 tb t (ev s x) h
   | _,_=>none
  | .builtin .cap=>match c.args.toList,c.argTypes.toList with
   | [x],[t]=>aKW tb t (ev s x)
   | _,_=>none
  | .builtin .copy=>match c.args.toList,c.argTypes.toList with
   | [x,y],[t,_]=>aGS tb t (ev s x) (ev s y) h
   | _,_=>none
  | .value f=>aFr P orc (ev s f) (i7 tb (aIw orc) c.argTypes.toList (c.args.toList.map (ev s))) h
  | _=>none
 | _=>none
def sem(P:Program)(tb:Tab)(new:Nat)(asm:Option Bool)(orc:Option Orc)(op:Op)(s:Nat→AVal)(h:Nat→Option Obj):Option iL :=
 match kG P tb new orc op s h with
 | some r=>some r
 | none=>i6 P tb new asm orc op s h
theorem Good.imp{P:Program}{o:Oper}{a:Act}{w:World}{p q:Value→World→Prop}(h:Good P o a w p)(hpq:∀v w',p v w'→q v w'):Good P o a w q:=fun K Q hk=>h K Q fun v w' hp=>hk v w' (hpq v w' hp)
section
variable{P:Program}{tb:Tab}{Bw:Nat→Prop}{w0:Base P}{ρ:Nat→Option Value}{φ:Nat→Nat→Prop}{h:Nat→Option Obj}{w:World}{new:Nat}{n:NS}{s:Nat→AVal}{a:Act}
theorem Post.val(f:AVal→AVal){x:AVal}(hf:∀F ρ v,V F ρ x v→V F ρ (f x) v){u:jJ}{v:Value}{w':World}(hp:Post Bw w0 ρ φ h w new x u v w'):Post Bw w0 ρ φ h w new (f x) u v w':=by
 obtain⟨ρ',φ',q1,q2,q3,q4,q5⟩:=hp
 exact⟨ρ',φ',q1,q2,q3,q4,hf _ _ _ q5⟩
theorem X8(htb:TabOK P tb)(m:Mem Bw w0 ρ φ h w)(hs:Slots n (Fr (own φ h) Bw w) ρ s a){o:Oper}{t:TypeId}{ps:Array (Nat×Operand)}(ho:o.op = .build t ps){x:AVal}{u:jJ}{c:Prop}
  (hd:tX tb t (ps.toList.map (·.1)) (ps.toList.map fun p=>ev s p.2)=some (x,u,c)):Good P o a w (Post Bw w0 ρ φ h w new x u):=by
 unfold tX at hd
 split at hd
 ·rename_i ti ht
  split at hd
  ·rename_i fs hk
   split at hd
   ·rename_i ds hds
    cases hd
    have:=kO hs (ps.toList.map (·.2))
    simp only[List.map_map]at this
    exact W5 m htb (htb.find ht) hk ho this hds
   ·cases hd
  ·rename_i n e hk
   split at hd
   ·rename_i te hte
    split at hd
    ·rename_i ds hds
     cases hd
     have:=kO hs (ps.toList.map (·.2))
     simp only[List.map_map]at this
     exact H6 m htb (htb.find ht) hk (htb.find hte) ho this hds
    ·cases hd
   ·cases hd
  ·cases hd
 ·cases hd
theorem aFZ(htb:TabOK P tb)(m:Mem Bw w0 ρ φ h w)(hs:Slots n (Fr (own φ h) Bw w) ρ s a)(hn:ρ new=none){o:Oper}{orc:Option Orc}{x:AVal}{u:jJ}{c:Prop}
  (hd:kG P tb new orc o.op s h=some (x,u,c)) (hc:c):Good P o a w (Post Bw w0 ρ φ h w new x u):=by
 unfold kG at hd
 split at hd
 ·-- alloc
  rename_i t ho
  unfold aGQ at hd
  split at hd
  ·split at hd
   ·rename_i ti ht
    split at hd
    ·rename_i hz
     cases hd
     exact aCL m hn (htb.find ht) ho hz.1 hz.2
    ·cases hd
   ·cases hd
  ·cases hd
 ·-- box
  rename_i t xo ho
  unfold aKv at hd
  split at hd
  ·rename_i k n xs cs ex
   have hx:=bD hs xo
   rw[ex]at hx
   cases hd
   exact aGA m hn hx ho _
  ·cases hd
 ·-- build
  rename_i t ps ho
  unfold aHP at hd
  split at hd
  ·split at hd
   ·rename_i ds c' hb
    split at hd
    ·rename_i hz
     cases hd
     refine(X8 (new:=new) htb m hs ho hb).imp fun v w' hp=> ?_
     exact Post.val (fun _=> .lag _ _ (eA _) (ds.drop _)) (fun F ρ v hv=>aFF hz.1 hz.2 hv) hp
    ·cases hd
   ·cases hd
  ·cases hd
 ·-- load
  rename_i t xo ho
  have hx:=bD hs xo
  unfold aGX at hd
  split at hd
  ·rename_i β T y ex
   rw[ex]at hx
   split at hd
   ·rename_i ti ht
    split at hd
    ·rename_i hT
     cases hd
     exact aB5 m (htb.find ht) hx ho hT.1 hT.2
    ·cases hd
   ·cases hd
  ·rename_i id n i ex
   rw[ex]at hx
   split at hd
   ·rename_i k n' xs cs hb
    split at hd
    ·rename_i ti ht
     split at hd
     ·rename_i k2 hk
      split at hd
      ·rename_i hq
       obtain⟨rfl,rfl⟩:=hq
       cases hd
       exact aFc m (htb.find ht) hk hx ho hb
      ·cases hd
     ·cases hd
    ·cases hd
   ·cases hd
  ·rename_i id i sz off ex
   rw[ex]at hx
   split at hd
   ·rename_i k n xs cs hb
    split at hd
    ·rename_i ti ht
     split at hd
     ·rename_i hq
      cases hd
      exact aDR m (htb.find ht) hq.1 hx ho hb hq.2.1 hq.2.2
     ·split at hd
      ·rename_i hq
       split at hd
       ·rename_i y hy
        cases hd
        exact aD4 m (htb.find ht) hx ho hb (by omega) hy
       ·cases hd
      ·cases hd
    ·cases hd
   ·rename_i n sz' cs hb
    split at hd
    ·rename_i ti ht
     split at hd
     ·rename_i y hy
      cases hd
      exact aBN m (htb.find ht) hx ho hb hy
     ·cases hd
    ·cases hd
   ·cases hd
  ·cases hd
 ·-- store
  rename_i t xo yo ho
  have hx:=bD hs xo
  have hy:=bD hs yo
  unfold aEO at hd
  split at hd
  ·rename_i id n i ex
   rw[ex]at hx
   split at hd
   ·rename_i k n' xs cs hb
    split at hd
    ·rename_i β k2 v ey
     rw[ey]at hy
     split at hd
     ·rename_i ti ht
      split at hd
      ·rename_i hq
       obtain⟨rfl,rfl,hs1⟩:=hq
       cases hd
       exact aC2 m (htb.find ht) hs1 hx hy ho hb
      ·cases hd
     ·cases hd
    ·cases hd
   ·cases hd
  ·rename_i id i sz off ex
   rw[ex]at hx
   split at hd
   ·rename_i k n xs cs hb
    split at hd
    ·rename_i ti ht
     split at hd
     ·rename_i hq
      obtain⟨q1,q2,q3,q4⟩:=hq
      cases hd
      exact aBI m (htb.find ht) hx hy q1 ho hb q2 (by omega) q4
     ·cases hd
    ·cases hd
   ·cases hd
  ·cases hd
 ·-- nilCheck
  rename_i xo ho
  have hx:=bD hs xo
  unfold aKr at hd
  split at hd
  ·rename_i β T y ex
   rw[ex]at hx
   cases hd
   exact aB9 m hx ho
  ·rename_i β A q ex
   rw[ex]at hx
   split at hd
   ·cases hd
    exact aCH m hx ho hc
   ·cases hd
  ·cases hd
 ·-- fieldAddr
  rename_i t xo f ho
  have hx:=bD hs xo
  unfold aG8 at hd
  split at hd
  ·rename_i β T y ex
   rw[ex]at hx
   split at hd
   ·rename_i ti ht
    split at hd
    ·rename_i fs hk
     split at hd
     ·rename_i off ft hf
      split at hd
      ·split at hd
       ·split at hd
        ·rename_i z hz
         cases hd
         exact Z0 m (htb.find ht) hx ho hk hf hz
        ·cases hd
       ·cases hd
      ·cases hd
     ·cases hd
    ·cases hd
   ·cases hd
  ·cases hd
 ·-- field
  rename_i t xo f ho
  have hx:=bD hs xo
  unfold aFg at hd
  split at hd
  ·rename_i cs ex
   rw[ex]at hx
   split at hd
   ·rename_i ti ht
    split at hd
    ·rename_i fs hk
     split at hd
     ·rename_i off ft hf
      split at hd
      ·rename_i fi hfi
       split at hd
       ·rename_i y hy
        cases hd
        exact aEW m (htb.find ht) hx ho hk hf (htb.find hfi) hy
       ·cases hd
      ·cases hd
     ·cases hd
    ·cases hd
   ·cases hd
  ·cases hd
 ·-- indexAddr
  rename_i t xo io ho
  have hx:=bD hs xo
  have hi:=bD hs io
  unfold aEz at hd
  split at hd
  ·rename_i β k n xs ex
   rw[ex]at hx
   split at hd
   ·rename_i β' k' mm ei
    rw[ei]at hi
    split at hd
    ·rename_i e te A het
     obtain⟨ti,h1,_,h2,h3,h4,h5⟩:=cF htb het
     split at hd
     ·rename_i hsz
      cases hd
      exact G7 m h1 h2 h3 hx hi ho hsz hc.1 hc.2
     ·cases hd
    ·cases hd
   ·cases hd
  ·rename_i β k n xs ex
   rw[ex]at hx
   split at hd
   ·rename_i β' k' mm ei
    rw[ei]at hi
    split at hd
    ·rename_i ti ht
     split at hd
     ·rename_i n' e hk
      split at hd
      ·rename_i te hte
       split at hd
       ·rename_i hq
        obtain⟨rfl,hsz⟩:=hq
        cases hd
        exact aAf m (htb.find ht) hk (htb.find hte) hsz hx hi ho hc.1 hc.2
       ·cases hd
      ·cases hd
     ·cases hd
    ·cases hd
   ·cases hd
  ·rename_i id j sz off ex
   rw[ex]at hx
   split at hd
   ·rename_i kk nn xs cs hb
    split at hd
    ·rename_i β' k' mm ei
     rw[ei]at hi
     split at hd
     ·rename_i ti ht
      split at hd
      ·rename_i n e hk
       split at hd
       ·rename_i te hte
        split at hd
        ·rename_i hsz
         cases hd
         exact aD0 m (htb.find ht) hk (htb.find hte) hsz hx hb hi ho hc
        ·cases hd
       ·cases hd
      ·cases hd
     ·cases hd
    ·cases hd
   ·cases hd
  ·rename_i id ex
   rw[ex]at hx
   split at hd
   ·rename_i n sz cs hb
    split at hd
    ·rename_i β' k' mm ei
     rw[ei]at hi
     split at hd
     ·rename_i e te het
      obtain⟨ti,h1,h2,h3⟩:=xS htb het
      split at hd
      ·rename_i hsz
       subst hsz
       cases hd
       exact aAe m h1 h2 h3 hx hb hi ho hc.1 hc.2
      ·cases hd
     ·cases hd
    ·cases hd
   ·cases hd
  ·cases hd
 ·-- binOp
  rename_i op t xo yo t' ho
  have hx:=bD hs xo
  have hy:=bD hs yo
  unfold aKz at hd
  split at hd
  ·rename_i k n xs k2 n2 ys ex ey
   rw[ex]at hx
   rw[ey]at hy
   split at hd
   ·rename_i ti ht
    split at hd
    ·rename_i n' e hk
     split at hd
     ·rename_i te hte
      split at hd
      ·rename_i k' hk'
       split at hd
       ·rename_i q
        subst q
        split at hd
        ·rename_i hq
         obtain⟨rfl,rfl,rfl⟩:=hq
         split at hd
         ·rename_i r hr
          cases hd
          simp only[V]at hx hy
          obtain⟨vs,e1,l1,_⟩:=hx
          obtain⟨us,e2,l2,_⟩:=hy
          obtain rfl:=List.eq_nil_of_length_eq_zero l1
          obtain rfl:=List.eq_nil_of_length_eq_zero l2
          rw[List.append_nil]at e1 e2
          obtain⟨z,h1,h2⟩:=M5 (P:=P) (w:=w) (F:=Fr (own φ h) Bw w) (ρ:=ρ) (xo:=xo) (yo:=yo) hr (run_eqGuard_agg w op t xo yo _ _ hc) (aGw (htb.find ht) hk (htb.find hte) hk' xs ys) ⟨rfl,rfl⟩
          exact Good.of_run (v:=z) (w':=w) (by simp only[execOp,ho,e1,e2];rw[Sem.run_bind,h1];rfl) (Post.pure m h2)
         ·cases hd
        ·cases hd
       ·cases hd
      ·cases hd
     ·cases hd
    ·cases hd
   ·cases hd
  ·rename_i β p β' q ex ey
   rw[ex]at hx
   rw[ey]at hy
   split at hd
   ·cases hd;exact yT m (.inl rfl) ho hx hy
   ·cases hd;exact yT m (.inr (.inl rfl)) ho hx hy
   ·cases hd;exact yT m (.inr (.inr (.inl rfl))) ho hx hy
   ·cases hd;exact yT m (.inr (.inr (.inr rfl))) ho hx hy
   ·cases hd
  ·cases hd
 ·-- convert
  rename_i st dt xo ho
  have hx:=bD hs xo
  unfold aG4 at hd
  split at hd
  ·rename_i id ex
   rw[ex]at hx
   split at hd
   ·rename_i et xs hi
    split at hd
    ·rename_i hdt
     subst hdt
     split at hd
     ·rename_i ti hti
      split at hd
      ·rename_i e hk
       split at hd
       ·rename_i te hte
        split at hd
        ·rename_i hek
         cases hd
         exact aAq m (htb.find hti) hk (htb.find hte) hek hx ho hi hc
        ·cases hd
       ·cases hd
      ·cases hd
     ·cases hd
    ·cases hd
   ·cases hd
  ·rename_i β p ex
   rw[ex]at hx
   split at hd
   ·rename_i si di hsi hdi
    split at hd
    ·rename_i k hk
     cases hd
     exact aCQ m (htb.find hsi) (htb.find hdi) hk ho hx hc
    ·cases hd
   ·cases hd
  ·cases hd
 ·-- slice
  rename_i t xo lo ho
  have hx:=bD hs xo
  have hl:=bD hs lo
  unfold aEj at hd
  split at hd
  ·rename_i id ex
   rw[ex]at hx
   split at hd
   ·rename_i be A xs hid
    split at hd
    ·rename_i β k l el
     rw[el]at hl
     split at hd
     ·rename_i e te A' het
      obtain⟨ti,h1,_,h2,h3,h4,h5⟩:=cF htb het
      cases hd
      exact aCj m h1 h2 h3 ho hid hx hl hc.1 hc.2
     ·cases hd
    ·cases hd
   ·cases hd
  ·cases hd
 ·-- makeFunc
  rename_i fn first caps ho
  unfold aJb at hd
  split at hd
  ·rename_i f y ys ef ec
   cases hd
   have hcaps:caps = #[]:=by
    cases caps with
    | mk l=>cases l with
     | nil=>rfl
     | cons _ _=>simp at ec
   subst hcaps
   have:=kO hs first.toList
   rw[ef]at this
   exact aAE m ho this
  ·cases hd
 ·-- buildSlice
  rename_i t len ps ho
  unfold aKF at hd
  split at hd
  ·rename_i e te het
   obtain⟨ti,h1,h2,h3⟩:=xS htb het
   split at hd
   ·rename_i hq
    cases hd
    have:=kO hs (ps.toList.map (·.2))
    simp only[List.map_map]at this
    exact aAC m hn h1 h2 h3 ho hq.2.1 this (fun x hx=>by
     have:=(List.all_eq_true.1 hq.2.2.1) x hx
     simp only[Bool.and_eq_true,beq_iff_eq]at this
     exact this) hq.2.2.2
   ·cases hd
  ·cases hd
 ·-- lookup
  rename_i t xo ko cok ho
  have hx:=bD hs xo
  have hk:=bD hs ko
  unfold aI8 at hd
  split at hd
  ·rename_i β k1 k2 kv β' k' i ex ek
   rw[ex]at hx
   rw[ek]at hk
   split at hd
   ·rename_i ti ht
    split at hd
    ·rename_i kt et hkt
     split at hd
     ·rename_i tk te htk hte
      split at hd
      ·rename_i k1' hk1
       split at hd
       ·rename_i hq
        obtain⟨rfl,rfl,hT⟩:=hq
        cases hd
        exact aB3 m (htb.find ht) hkt (htb.find htk) hk1 (htb.find hte) hT ho hx hk
       ·cases hd
      ·cases hd
     ·cases hd
    ·cases hd
   ·cases hd
  ·cases hd
 ·-- call
  rename_i c0 ho
  obtain⟨callee,args,tys⟩:=c0
  cases callee with
  | builtin b =>
   cases b with
   | len =>
    simp only at hd
    split at hd
    ·rename_i xo t ea et
     have ea':args = #[xo]:=Array.ext' ea
     have et':tys = #[t]:=Array.ext' et
     subst ea' et'
     have hx:=bD hs xo
     unfold aJ4 at hd
     split at hd
     ·rename_i id ex
      rw[ex]at hx
      split at hd
      ·rename_i n sz cs hb
       split at hd
       ·rename_i r het
        obtain⟨e,te⟩:=r
        obtain⟨ti,h1,h2,h3⟩:=xS htb het
        cases hd
        exact aDo m h1 h2 hx hb ho
       ·cases hd
      ·cases hd
     ·cases hd
    ·cases hd
   | append =>
    simp only at hd
    split at hd
    ·rename_i xo yo t u ea et
     have ea':args = #[xo,yo]:=Array.ext' ea
     have et':tys = #[t,u]:=Array.ext' et
     subst ea' et'
     have hx:=bD hs xo
     have hy:=bD hs yo
     unfold aJW at hd
     split at hd
     ·rename_i r hz
      cases hd
      unfold aHv at hz
      split at hz
      ·rename_i β k1 n ey
       split at hz
       ·rename_i e te A tu het htu
        obtain⟨ti,h1,_,h2,h3,h4,h5⟩:=cF htb het
        split at hz
        ·rename_i k2 hku
         split at hz
         ·rename_i ex
          cases hz
          rw[ey]at hy
          exact aBj m hn h1 h2 h3 h4 h5 (htb.find htu) hku ho hx hy (.inl ⟨ex,rfl,rfl,rfl⟩) hc.1 hc.2.1 hc.2.2
         ·rename_i id ex
          split at hz
          ·rename_i e' B xs hid
           split at hz
           ·rename_i q
            subst q
            split at hz
            ·rename_i he
             subst he
             cases hz
             rw[ey]at hy
             exact aBj m hn h1 h2 h3 h4 h5 (htb.find htu) hku ho hx hy (.inr ⟨id,ex,hid,rfl,rfl⟩) hc.1 hc.2.1 hc.2.2
            ·cases hz
           ·cases hz
          ·cases hz
         ·cases hz
        ·cases hz
       ·cases hz
      ·cases hz
     ·unfold aB4 at hd
      split at hd
      ·rename_i β s0 ey
       rw[ey]at hy
       split at hd
       ·rename_i tu htu
        split at hd
        ·rename_i hku
         split at hd
         ·rename_i ti hti
          split at hd
          ·rename_i e hk
           split at hd
           ·rename_i te hte
            split at hd
            ·rename_i hq
             split at hd
             ·rename_i ex
              rw[ex]at hx
              cases hd
              exact tZ m hn (htb.find hti) hk (htb.find htu) hku (htb.find hte) hq.1 hq.2 hx hy ho (.inl ⟨rfl,rfl,rfl,rfl⟩) hc
             ·rename_i id ex
              rw[ex]at hx
              split at hd
              ·rename_i e' xs hid
               split at hd
               ·rename_i he
                subst he
                cases hd
                exact tZ m hn (htb.find hti) hk (htb.find htu) hku (htb.find hte) hq.1 hq.2 hx hy ho (.inr ⟨id,rfl,hid,rfl,rfl⟩) hc
               ·cases hd
              ·cases hd
             ·cases hd
            ·cases hd
           ·cases hd
          ·cases hd
         ·cases hd
        ·cases hd
       ·cases hd
      ·cases hd
    ·cases hd
   | clear =>
    simp only at hd
    split at hd
    ·rename_i xo t ea et
     have ea':args = #[xo]:=Array.ext' ea
     have et':tys = #[t]:=Array.ext' et
     subst ea' et'
     have hx:=bD hs xo
     unfold aE2 at hd
     split at hd
     ·rename_i id ex
      rw[ex]at hx
      split at hd
      ·rename_i K A kv hid
       split at hd
       ·rename_i ti hti
        split at hd
        ·rename_i kt et' hk
         cases hd
         exact aEZ m (htb.find hti) hk ho hid hx
        ·cases hd
       ·cases hd
      ·cases hd
     ·cases hd
    ·cases hd
   | cap =>
    simp only at hd
    split at hd
    ·rename_i xo t ea et
     have ea':args = #[xo]:=Array.ext' ea
     have et':tys = #[t]:=Array.ext' et
     subst ea' et'
     have hx:=bD hs xo
     unfold aKW at hd
     split at hd
     ·rename_i ex
      rw[ex]at hx
      split at hd
      ·rename_i ti hti
       split at hd
       ·rename_i e hk
        cases hd
        exact aC6 m (htb.find hti) hk ho hx
       ·cases hd
      ·cases hd
     ·cases hd
    ·cases hd
   | copy =>
    simp only at hd
    split at hd
    ·rename_i xo yo t t2 ea et
     have ea':args = #[xo,yo]:=Array.ext' ea
     have et':tys = #[t,t2]:=Array.ext' et
     subst ea' et'
     have hx:=bD hs xo
     have hy:=bD hs yo
     unfold aGS at hd
     split at hd
     ·rename_i id lo sz ex
      rw[ex]at hx
      split at hd
      ·rename_i e' B xs hid
       split at hd
       ·rename_i e te A het
        obtain⟨ti,h1,_,h2,h3,h4,h5⟩:=cF htb het
        split at hd
        ·rename_i ys hys
         split at hd
         ·rename_i q
          subst q
          split at hd
          ·rename_i hsz
           subst hsz
           cases hd
           exact aBJ m h1 h2 h3 h4 hx hy ho hid hys
          ·cases hd
         ·cases hd
        ·cases hd
       ·cases hd
      ·cases hd
     ·cases hd
    ·cases hd
   | _=>cases hd
  | value f =>
   simp only at hd
   unfold aFr at hd
   split at hd
   ·rename_i fid fs q ef
    have hf:=bD hs f
    rw[ef]at hf
    split at hd
    ·split at hd
     ·rename_i args' hl
      cases hd
      exact aEE m ho hf (kR (kO hs args.toList)) hl hc
     ·cases hd
    ·cases hd
   ·cases hd
  | invoke _ _=>cases hd
 ·cases hd
theorem aHF(htb:TabOK P tb)(m:Mem Bw w0 ρ φ h w)(hs:Slots n (Fr (own φ h) Bw w) ρ s a)(hn8:∀j,j<8→ρ (new+j)=none){o:Oper}{asm:Option Bool}{orc:Option Orc}(hdie:aHa orc=none){x:AVal}{u:jJ}{c:Prop}
  (hd:sem P tb new asm orc o.op s h=some (x,u,c)) (hc:c):Good P o a w (Post Bw w0 ρ φ h w new x u):=by
 unfold sem at hd
 split at hd
 ·rename_i r hr
  cases hd
  exact aFZ htb m hs (hn8 0 (by omega)) hr hc
 ·exact aGa htb m hs hn8 hdie hd hc
theorem aIq(m:Mem Bw w0 ρ φ h w)(hs:Slots n (Fr (own φ h) Bw w) ρ s a)(hn8:∀j,j<8→ρ (new+j)=none){o:Oper}{asm:Option Bool}{orc:Option Orc}{y:Value}(hdy:aCU o.op orc=some y){x:AVal}{u:jJ}{c:Prop}
  (hd:sem P tb new asm orc o.op s h=some (x,u,c)) (hc:c):Bad P o a w y (fun w'=>∃v,Post Bw w0 ρ φ h w new .unk u v w'):=by
 refine aHb (tb:=tb) m hs hn8 hdy (x:=x) (u:=u) (c:=c) (asm:=asm) ?_ hc
 unfold sem at hd
 split at hd
 ·rename_i r hr
  exfalso
  unfold aCU at hdy
  split at hdy
  ·rename_i c0 q ho
   split at hdy
   ·rename_i fo hfo
    split at hdy
    ·rename_i hcond
     simp only[Bool.and_eq_true]at hcond
     rw[ho]at hr
     obtain⟨callee,args,tys⟩:=c0
     simp only at hfo
     subst hfo
     simp only[kG]at hr
     unfold aFr at hr
     split at hr
     ·rename_i e
      cases e
      rw[if_neg (fun hh=>by rw[hcond.1.1]at hh;cases hh.1)]at hr
      cases hr
     ·cases hr
    ·cases hdy
   ·cases hdy
  ·cases hdy
 ·exact hd
theorem aE8{s s':Nat→AVal}{h h':Nat→Option Obj}{op:Op}{orc:Option Orc}(hs:∀x∈op.operands.toList,ev s x=ev s' x)(key:∀x∈op.operands.toList,(¬((∃x,op = .move x)∨(∃x,op = .assign x)∨(∃x,op = .nilCheck x)∨∃t x f,op = .fieldAddr t x f))→∀i∈cE (ev s x),h i=h' i)
  (hl:∀c,op = .call c→∀ys,(∀i∈bP ys,∃x∈op.operands.toList,i∈cE (ev s x))→sP h ys=sP h' ys) (hrow:∀c,op = .call c→∀A,∀x∈op.operands.toList,fI h A (ev s x)=fI h' A (ev s x)) :
  kG P tb new orc op s h=kG P tb new orc op s' h':=by
 cases op with
 | alloc t=>rfl
 | box t x=>simp only[kG,hs x (by simp[Op.operands])]
 | build t ps =>
  simp only[kG]
  have e:ps.toList.map (fun p=>ev s p.2)=ps.toList.map (fun p=>ev s' p.2):=List.map_congr_left (fun p hp=>hs p.2 (by simp only[Op.operands,List.mem_map];exact⟨p,hp,rfl⟩))
  rw[e]
 | load t x =>
  have hx:=key x (by simp[Op.operands]) (by rintro(⟨_,e⟩ | ⟨_,e⟩ | ⟨_,e⟩ | ⟨_,_,_,e⟩) <;> cases e)
  simp only[kG,←hs x (by simp[Op.operands])]
  unfold aGX
  split
  ·rfl
  ·rename_i id n i ex
   rw[hx id (by rw[ex];simp[cE])]
  ·rename_i id i sz off ex
   rw[hx id (by rw[ex];simp[cE])]
  ·rfl
 | store t x y =>
  have hx:=key x (by simp[Op.operands]) (by rintro(⟨_,e⟩ | ⟨_,e⟩ | ⟨_,e⟩ | ⟨_,_,_,e⟩) <;> cases e)
  simp only[kG,←hs x (by simp[Op.operands]),←hs y (by simp[Op.operands])]
  unfold aEO
  split
  ·rename_i id n i ex
   rw[hx id (by rw[ex];simp[cE])]
  ·rename_i id i sz off ex
   rw[hx id (by rw[ex];simp[cE])]
  ·rfl
 | nilCheck x=>simp only[kG,hs x (by simp[Op.operands])]
 | fieldAddr t x f=>simp only[kG,hs x (by simp[Op.operands])]
 | field t x f=>simp only[kG,hs x (by simp[Op.operands])]
 | indexAddr t x i =>
  have hx:=key x (by simp[Op.operands]) (by rintro(⟨_,e⟩ | ⟨_,e⟩ | ⟨_,e⟩ | ⟨_,_,_,e⟩) <;> cases e)
  simp only[kG,←hs x (by simp[Op.operands]),←hs i (by simp[Op.operands])]
  unfold aEz
  split
  ·rfl
  ·rfl
  ·rename_i id j sz off ex
   rw[hx id (by rw[ex];simp[cE])]
  ·rename_i id ex
   rw[hx id (by rw[ex];simp[cE])]
  ·rfl
 | binOp o t x y t'=>simp only[kG,hs x (by simp[Op.operands]),hs y (by simp[Op.operands])]
 | convert st dt x =>
  have hx:=key x (by simp[Op.operands]) (by rintro(⟨_,e⟩ | ⟨_,e⟩ | ⟨_,e⟩ | ⟨_,_,_,e⟩) <;> cases e)
  simp only[kG,←hs x (by simp[Op.operands])]
  unfold aG4
  split
  ·rename_i id ex
   rw[hx id (by rw[ex];simp[cE])]
  ·rfl
  ·rfl
 | slice t x lo hi mx =>
  cases lo with
  | none=>rfl
  | some lo =>
   cases hi with
   | some _=>rfl
   | none =>
    cases mx with
    | some _=>rfl
    | none =>
     have hx:=key x (by simp[Op.operands]) (by rintro(⟨_,e⟩ | ⟨_,e⟩ | ⟨_,e⟩ | ⟨_,_,_,e⟩) <;> cases e)
     simp only[kG,←hs x (by simp[Op.operands]),←hs lo (by simp[Op.operands])]
     unfold aEj
     split
     ·rename_i id ex
      rw[hx id (by rw[ex];simp[cE])]
     ·rfl
 | makeFunc f fs cs =>
  simp only[kG]
  rw[List.map_congr_left (l:=cs.toList) (f:=ev s) (g:=ev s') (fun p hp=>hs p (by simp only[Op.operands,Array.toList_append,List.mem_append];exact .inr hp)),List.map_congr_left (l:=fs.toList) (f:=ev s) (g:=ev s') (fun p hp=>hs p (by simp only[Op.operands,Array.toList_append,List.mem_append];exact .inl hp))]
 | buildSlice t len ps =>
  simp only[kG]
  have e:ps.toList.map (fun p=>ev s p.2)=ps.toList.map (fun p=>ev s' p.2):=List.map_congr_left (fun p hp=>hs p.2 (by simp only[Op.operands,List.mem_map];exact⟨p,hp,rfl⟩))
  rw[e]
 | lookup t x k cok=>simp only[kG,hs x (by simp[Op.operands]),hs k (by simp[Op.operands])]
 | call c =>
  obtain⟨callee,args,tys⟩:=c
  have hargs:∀x∈args.toList,x∈(Op.call { callee,args,argTypes:=tys }).operands.toList:=fun x hx=>by
   simp only[Op.operands,Call.operands,Array.toList_append,List.mem_append];exact .inr hx
  have e:args.toList.map (ev s)=args.toList.map (ev s'):=List.map_congr_left (fun p hp=>hs p (hargs p hp))
  cases callee with
  | builtin b =>
   cases b with
   | append =>
    simp only[kG]
    split
    ·rename_i x y t u ea _
     have hx:x∈args.toList:=by rw[ea];simp
     have hy:y∈args.toList:=by rw[ea];simp
     rw[←hs x (hargs x hx),←hs y (hargs y hy)]
     have hk:=key x (hargs x hx) (by rintro(⟨_,e⟩ | ⟨_,e⟩ | ⟨_,e⟩ | ⟨_,_,_,e⟩) <;> cases e)
     unfold aJW
     cases hex:ev s x with
     | sl id =>
      unfold aB4 aHv
      dsimp only
      rw[hk id (by rw[hex];simp[cE])]
     | _=>rfl
    ·rfl
   | clear =>
    simp only[kG]
    split
    ·rename_i x t ea _
     have hx:x∈args.toList:=by rw[ea];simp
     rw[←hs x (hargs x hx)]
     have hk:=key x (hargs x hx) (by rintro(⟨_,e⟩ | ⟨_,e⟩ | ⟨_,e⟩ | ⟨_,_,_,e⟩) <;> cases e)
     unfold aE2
     split
     ·rename_i id ex
      rw[hk id (by rw[ex];simp[cE])]
     ·rfl
    ·rfl
   | cap =>
    simp only[kG]
    split
    ·rename_i x t ea _
     have hx:x∈args.toList:=by rw[ea];simp
     rw[←hs x (hargs x hx)]
    ·rfl
   | len =>
    simp only[kG]
    split
    ·rename_i x t ea _
     have hx:x∈args.toList:=by rw[ea];simp
     rw[←hs x (hargs x hx)]
     have hk:=key x (hargs x hx) (by rintro(⟨_,e⟩ | ⟨_,e⟩ | ⟨_,e⟩ | ⟨_,_,_,e⟩) <;> cases e)
     unfold aJ4
     split
     ·rename_i id ex
      rw[hk id (by rw[ex];simp[cE])]
     ·rfl
    ·rfl
   | copy =>
    simp only[kG]
    split
    ·rename_i x y t t2 ea _
     have hx:x∈args.toList:=by rw[ea];simp
     have hy:y∈args.toList:=by rw[ea];simp
     rw[←hs x (hargs x hx),←hs y (hargs y hy)]
     have hk:=key x (hargs x hx) (by rintro(⟨_,e⟩ | ⟨_,e⟩ | ⟨_,e⟩ | ⟨_,_,_,e⟩) <;> cases e)
     unfold aGS
     split
     ·rename_i id lo sz ex
      rw[hk id (by rw[ex];simp[cE])]
      split
      ·split
       ·rename_i A _
        rw[hrow _ rfl A y (hargs y hy)]
       ·rfl
      ·rfl
     ·rfl
    ·rfl
   | _=>rfl
  | value f =>
   have hf:f∈(Op.call { callee:= .value f,args,argTypes:=tys }).operands.toList:=by simp[Op.operands,Call.operands]
   simp only[kG]
   rw[←hs f hf,←e]
   unfold aFr
   split
   ·rename_i fid fs q ef
    split
    ·rw[hl _ rfl _ (fun i hi=>by
      obtain⟨y,hy,hi⟩:=dC.1 hi
      rw[List.mem_append]at hy
      rcases hy with hy | hy
      ·exact⟨f,hf,by rw[ef];simp only[cE];exact dC.2 ⟨y,hy,hi⟩⟩
      ·have hi2:i∈bP (i7 tb (aIw (some q)) tys.toList (args.toList.map (ev s))):=dC.2 ⟨y,hy,hi⟩
       rw[qU]at hi2
       obtain⟨z,hz,hi3⟩:=dC.1 hi2
       obtain⟨p,hp,rfl⟩:=List.mem_map.1 hz
       exact⟨p,hargs p hp,hi3⟩)]
    ·rfl
   ·rfl
  | invoke _ _=>rfl
 | _=>rfl
end
end Go.Tv
