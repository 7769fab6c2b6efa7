/- What rules as pieces say, or the first fault. -/
import Derived.Test.YtacpjjgochokcaaDoorTv06pdm
namespace Go.Proofs.YtacpjjgochokcaaDoor.T
open Go Go.Tv Go.Proofs
abbrev gN:=List (List UInt8×Int)
abbrev look(sets:gN)(w:List UInt8):Option Int:=bL .str sets w
def bZ(n:Nat):Int:=IntKind.u32.wrap ((IntKind.u32.wrap ((1:Int)*2 ^ (min (n:Int).toNat IntKind.u32.bits))) - (1:Int))
def P6(n:Nat):Int:=IntKind.u32.wrap ((1:Int)*2 ^ (min (n:Int).toNat IntKind.u32.bits))
def jY(sets:gN)(ts:Toks):(List UInt8×Int×Toks)⊕Er:=match iZ ts with
 | .inr e=> .inr e
 | .inl (w,n,r)=>match look sets w with
  | some _=> .inr (23,n)
  | none=> .inl (w,n,r)
def mY(sets:gN)(ts:Toks):(Int×Toks)⊕Er:=match iZ ts with
 | .inr e=> .inr e
 | .inl (w,n,r)=>match look sets w with
  | some b=> .inl (b,r)
  | none=> .inr (22,n)
def cK(cls:List (List UInt8))(w:List UInt8):Nat:=j8 (fun i=>cls.getD i [] == w) cls.length
def vO(cls:List (List UInt8))(ts:Toks):(Int×Toks)⊕Er:=match iZ ts with
 | .inr e=> .inr e
 | .inl (w,n,r)=>if cK cls w<cls.length then .inl ((cK cls w:Int),r)else .inr (22,n)
def kP(c:Nat)(sets:gN):Toks→Int→(Int×Toks)⊕Er
 | .bad n,_=> .inr (20,n)
 | .eof n,_=> .inr (21,n)
 | .sg d n r,b=>if d=c then .inl (b,r)else .inr (21,n)
 | .wd w n r,b=>match look sets w with
  | some x=>kP c sets r (aK .or .u32 b x)
  | none=> .inr (22,n)
abbrev TR:=(Tree×Toks×Int)⊕Er
def xJ:Toks→Bool
 | .wd _ _ _=>true
 | .sg d _ _=>d == 40 || d == 91 || d == 46
 | _=>false
def hU(E:Option (Int→Toks→TR))(wh:Int)(sets:gN)(pl:Int):Toks→TR
 | .bad n=> .inr (20,n)
 | .eof n=> .inr (21,n)
 | .wd w n r=>if pl+1 > 200 then .inr (26,n)else match look sets w with
  | none=> .inr (22,n)
  | some b=> .inl (.node 1 b [],r,pl+1)
 | .sg d n r =>
  if d=40 then match E with
   | none=> .inr (25,n)
   | some f=>match f pl r with
    | .inr e=> .inr e
    | .inl (x,r1,pl1)=>match lP 41 r1 with
     | .inr e=> .inr e
     | .inl r2=> .inl (x,r2,pl1)
  else if pl+1 > 200 then .inr (26,n)
  else if d=46 then .inl (.node 1 wh [],r,pl+1)
  else match bF 94 r with
   | .inr e=> .inr e
   | .inl (neg,r1)=>match kP 93 sets r1 0 with
    | .inr e=> .inr e
    | .inl (b,r2)=> .inl (.node 1 (if neg then aK .andNot .u32 wh b else b) [],r2,pl+1)
def lK(E:Option (Int→Toks→TR))(wh:Int)(sets:gN)(pl:Int)(ts:Toks):TR:=match hU E wh sets pl ts with
 | .inr e=> .inr e
 | .inl (x,r,pl1)=>match r with
  | .bad n=> .inr (20,n)
  | .sg d n r1=>if d=42 then .inl (.node 4 0 [x],r1,pl1)else if d=43 then .inl (.node 5 0 [x],r1,pl1)else if d=63 then .inl (.node 6 0 [x],r1,pl1)else .inl (x,.sg d n r1,pl1)
  | .eof n=> .inl (x,.eof n,pl1)
  | .wd w n r1=> .inl (x,.wd w n r1,pl1)
def pP(E:Option (Int→Toks→TR))(wh:Int)(sets:gN):Nat→Toks→Int→List Tree→(List Tree×Toks×Int)⊕Er
 | 0,ts,pl,acc=> .inl (acc,ts,pl)
 | f+1,ts,pl,acc=>match jX ts with
  | .inr e=> .inr e
  | .inl _=>if xJ ts then match lK E wh sets pl ts with
    | .inr e=> .inr e
    | .inl (x,r,pl1)=>pP E wh sets f r pl1 (acc++[x])
   else .inl (acc,ts,pl)
def kL:List Tree→Tree
 | []=> .node 0 0 []
 | [x]=>x
 | l=> .node 2 0 l
def aGl:List Tree→Tree
 | [x]=>x
 | l=> .node 3 0 l
def vU(E:Option (Int→Toks→TR))(wh:Int)(sets:gN)(pl:Int)(ts:Toks):TR:=match pP E wh sets (ts.size+1) ts pl []with
 | .inr e=> .inr e
 | .inl (l,r,pl1)=> .inl (kL l,r,pl1)
def D2(E:Option (Int→Toks→TR))(wh:Int)(sets:gN):Nat→Toks→Int→List Tree→(List Tree×Toks×Int)⊕Er
 | 0,ts,pl,acc=> .inl (acc,ts,pl)
 | f+1,ts,pl,acc=>match bF 124 ts with
  | .inr e=> .inr e
  | .inl (false,r)=> .inl (acc,r,pl)
  | .inl (true,r)=>match vU E wh sets pl r with
   | .inr e=> .inr e
   | .inl (x,r1,pl1)=>D2 E wh sets f r1 pl1 (acc++[x])
def pF(E:Option (Int→Toks→TR))(wh:Int)(sets:gN)(pl:Int)(ts:Toks):TR:=match vU E wh sets pl ts with
 | .inr e=> .inr e
 | .inl (x,r,pl1)=>match D2 E wh sets (r.size+1) r pl1 [x]with
  | .inr e=> .inr e
  | .inl (l,r1,pl2)=> .inl (aGl l,r1,pl2)
def hZ(wh:Int)(sets:gN):Nat→Int→Toks→TR
 | 0=>pF none wh sets
 | d+1=>pF (some (hZ wh sets d)) wh sets
abbrev RL:=List (Int×Tree×Tree)
structure PS where
 ts:Toks
 cls:List (List UInt8)
 join:Int
 after:Int
 treat:List Int
 list:RL
 sets:gN
 pl:Int
def kX:Nat→Toks→List (List UInt8)→List Int→gN→(Toks×List (List UInt8)×List Int×gN)⊕Er
 | 0,ts,cls,tr,sets=> .inl (ts,cls,tr,sets)
 | f+1,ts,cls,tr,sets=>match bF 59 ts with
  | .inr e=> .inr e
  | .inl (true,r)=> .inl (r,cls,tr,sets)
  | .inl (false,r)=>match jY sets r with
   | .inr e=> .inr e
   | .inl (w,n,r1)=>if cls.length≥24 then .inr (24,n)else kX f r1 (cls++[w]) (tr++[(cls.length:Int)]) (sets++[(w,P6 cls.length)])
def aBX(sets:gN)(ts:Toks):(Toks×gN)⊕Er:=match jY sets ts with
 | .inr e=> .inr e
 | .inl (w,_,r)=>match lP 61 r with
  | .inr e=> .inr e
  | .inl r1=>match kP 59 sets r1 0 with
   | .inr e=> .inr e
   | .inl (b,r2)=> .inl (r2,sets++[(w,b)])
def zS(sets:gN)(ts:Toks):(Toks×Int×Int)⊕Er:=match kP 47 sets ts 0 with
 | .inr e=> .inr e
 | .inl (b,r)=>match kP 59 sets r 0 with
  | .inr e=> .inr e
  | .inl (c,r1)=> .inl (r1,b,c)
def tE(cls:List (List UInt8))(tr:List Int)(ts:Toks):(Toks×List Int)⊕Er:=match vO cls ts with
 | .inr e=> .inr e
 | .inl (a,r)=>match lP 61 r with
  | .inr e=> .inr e
  | .inl r1=>match vO cls r1 with
   | .inr e=> .inr e
   | .inl (b,r2)=>match lP 59 r2 with
    | .inr e=> .inr e
    | .inl r3=> .inl (r3,tr.set a.toNat b)
def sQ(aB8:Int)(n:Int)(s:PS)(ts:Toks):(Toks×RL×Int)⊕Er :=
 if s.list.length≥24 then .inr (24,n)else match hZ (bZ s.cls.length) s.sets 16 s.pl ts with
 | .inr e=> .inr e
 | .inl (x,r,pl1)=>match lP 47 r with
  | .inr e=> .inr e
  | .inl r1=>match hZ (bZ s.cls.length) s.sets 16 pl1 r1 with
   | .inr e=> .inr e
   | .inl (y,r2,pl2)=>match lP 59 r2 with
    | .inr e=> .inr e
    | .inl r3=> .inl (r3,s.list++[(aB8,x,y)],pl2)
def does? (w:List UInt8):Option Int :=
 if w=[107,101,101,112]then some 0 else if w=[109,97,121]then some 1 else if w=[109,117,115,116]then some 2 else none
def oU(s:PS)(w:List UInt8)(n:Int)(ts:Toks):PS⊕Er :=
 if w=[99,108,97,115,115]then match kX (ts.size+1) ts s.cls s.treat s.sets with
  | .inr e=> .inr e
  | .inl (r,c,t,st)=> .inl { s with ts:=r,cls:=c,treat:=t,sets:=st }
 else if w=[115,101,116]then match aBX s.sets ts with
  | .inr e=> .inr e
  | .inl (r,st)=> .inl { s with ts:=r,sets:=st }
 else if w=[106,111,105,110]then match zS s.sets ts with
  | .inr e=> .inr e
  | .inl (r,b,c)=> .inl { s with ts:=r,join:=aK .or .u32 s.join b,after:=aK .or .u32 s.after c }
 else if w=[116,114,101,97,116]then match tE s.cls s.treat ts with
  | .inr e=> .inr e
  | .inl (r,t)=> .inl { s with ts:=r,treat:=t }
 else match does? w with
  | none=> .inr (21,n)
  | some d=>match sQ d n s ts with
   | .inr e=> .inr e
   | .inl (r,l,pl)=> .inl { s with ts:=r,list:=l,pl:=pl }
def C4:Nat→PS→PS⊕Er
 | 0,s=> .inl s
 | f+1,s=>match s.ts with
  | .bad n=> .inr (20,n)
  | .eof _=> .inl s
  | .sg _ n _=> .inr (21,n)
  | .wd w n r=>match oU s w n r with
   | .inr e=> .inr e
   | .inl s1=>C4 f s1
def F5(ts:Toks):PS:=⟨ts,[],0,0,[],[],[],0⟩
/-! Sizes: what is taken. -/
theorem O9{ts:Toks}{w n r}(h:iZ ts = .inl (w,n,r)):r.size+1=ts.size:=by
 cases ts <;> simp only[iZ]at h <;> cases h
 rfl
theorem hY{c:Nat}{ts:Toks}{b r}(h:bF c ts = .inl (b,r)):r.size+(if b then 1 else 0)=ts.size:=by
 cases ts with
 | bad n=>cases h
 | eof n=>cases h;rfl
 | wd w n r=>cases h;rfl
 | sg d n r =>
  simp only[bF]at h
  split at h <;> cases h <;> rfl
theorem dZ{c:Nat}{ts r:Toks}(h:lP c ts = .inl r):r.size+1=ts.size:=by
 cases ts with
 | bad n=>cases h
 | eof n=>cases h
 | wd w n r=>cases h
 | sg d n r =>
  simp only[lP]at h
  split at h <;> cases h
  rfl
theorem mS{sets:gN}{ts:Toks}{w n r}(h:jY sets ts = .inl (w,n,r)):r.size+1=ts.size:=by
 unfold jY at h
 split at h
 ·cases h
 ·split at h <;> cases h
  exact O9 (by assumption)
theorem t8{cls}{ts:Toks}{b r}(h:vO cls ts = .inl (b,r)):r.size+1=ts.size:=by
 unfold vO at h
 split at h
 ·cases h
 ·split at h <;> cases h
  exact O9 (by assumption)
theorem jG{c:Nat}{sets:gN}:∀ {ts:Toks} {b x r},kP c sets ts b = .inl (x,r)→r.size+1≤ts.size
 | .bad n,b,x,r,h=>by cases h
 | .eof n,b,x,r,h=>by cases h
 | .sg d n r',b,x,r,h=>by
  simp only[kP]at h
  split at h <;> cases h
  exact Nat.le_refl _
 | .wd w n r',b,x,r,h=>by
  simp only[kP]at h
  split at h
  ·have:=jG h
   simp only[Toks.size];omega
  ·cases h
def sB(E:Option (Int→Toks→TR)):Prop:=∀f,E=some f→∀pl ts x r pl1,f pl ts = .inl (x,r,pl1)→r.size≤ts.size
theorem zR{E wh sets}(hE:sB E){pl:Int}{ts:Toks}{x r pl1}(h:hU E wh sets pl ts = .inl (x,r,pl1)):r.size+1≤ts.size:=by
 cases ts with
 | bad n=>cases h
 | eof n=>cases h
 | wd w n r' =>
  simp only[hU]at h
  split at h
  ·cases h
  ·split at h <;> cases h
   simp[Toks.size]
 | sg d n r' =>
  simp only[hU]at h
  split at h
  ·split at h
   ·cases h
   ·rename_i f
    split at h
    ·cases h
    ·rename_i x1 r1 pl1 h1
     split at h
     ·cases h
     ·rename_i r2 h2
      cases h
      have a:=hE f rfl _ _ _ _ _ h1
      have b:=dZ h2
      simp only[Toks.size];omega
  ·split at h
   ·cases h
   ·split at h
    ·cases h;simp[Toks.size]
    ·split at h
     ·cases h
     ·rename_i neg r1 h1
      split at h
      ·cases h
      ·rename_i b r2 h2
       cases h
       have a:=hY h1
       have b:=jG h2
       simp only[Toks.size]
       split at a <;> omega
theorem sG{E wh sets}(hE:sB E){pl:Int}{ts:Toks}{x r pl1}(h:lK E wh sets pl ts = .inl (x,r,pl1)):r.size+1≤ts.size:=by
 unfold lK at h
 split at h
 ·cases h
 ·rename_i x1 r1 p1 h1
  have a:=zR hE h1
  split at h
  ·cases h
  ·rename_i d n r2
   simp only[Toks.size]at a
   split at h
   ·cases h;omega
   ·split at h
    ·cases h;omega
    ·split at h <;> cases h
     ·omega
     ·simp only[Toks.size];omega
  ·cases h;exact a
  ·cases h;exact a
theorem T2{E wh sets}(hE:sB E):∀ {f:Nat} {ts:Toks} {pl acc l r pl1},pP E wh sets f ts pl acc = .inl (l,r,pl1)→r.size≤ts.size
 | 0,ts,pl,acc,l,r,pl1,h=>by cases h;exact Nat.le_refl _
 | f+1,ts,pl,acc,l,r,pl1,h=>by
  simp only[pP]at h
  split at h
  ·cases h
  ·split at h
   ·split at h
    ·cases h
    ·rename_i h1
     have a:=sG hE h1
     have b:=T2 hE h
     omega
   ·cases h;exact Nat.le_refl _
theorem nZ{E wh sets}(hE:sB E){pl ts x r pl1}(h:vU E wh sets pl ts = .inl (x,r,pl1)):r.size≤ts.size:=by
 unfold vU at h
 split at h
 ·cases h
 ·rename_i h1
  cases h
  exact T2 hE h1
theorem U8{E wh sets}(hE:sB E):∀ {f:Nat} {ts:Toks} {pl acc l r pl1},D2 E wh sets f ts pl acc = .inl (l,r,pl1)→r.size≤ts.size
 | 0,ts,pl,acc,l,r,pl1,h=>by cases h;exact Nat.le_refl _
 | f+1,ts,pl,acc,l,r,pl1,h=>by
  simp only[D2]at h
  split at h
  ·cases h
  ·rename_i h1
   cases h
   have:=hY h1
   simp only[Bool.false_eq_true,if_false]at this
   omega
  ·rename_i h1
   have a:=hY h1
   simp only[if_true]at a
   split at h
   ·cases h
   ·rename_i h2
    have b:=nZ hE h2
    have c:=U8 hE h
    omega
theorem H1{E wh sets}(hE:sB E){pl ts x r pl1}(h:pF E wh sets pl ts = .inl (x,r,pl1)):r.size≤ts.size:=by
 unfold pF at h
 split at h
 ·cases h
 ·rename_i h1
  split at h
  ·cases h
  ·rename_i h2
   cases h
   have a:=nZ hE h1
   have b:=U8 hE h2
   omega
theorem uC:sB none:=fun f h=>by cases h
theorem fY{wh sets}:∀ {d:Nat} {pl ts x r pl1},hZ wh sets d pl ts = .inl (x,r,pl1)→r.size≤ts.size
 | 0,_,_,_,_,_,h=>H1 uC h
 | d+1,_,_,_,_,_,h=>H1 (fun f hf=>by cases hf;exact fun pl ts x r pl1 h=>fY h) h
theorem yJ{wh sets d}:sB (some (hZ wh sets d)):=fun f hf=>by cases hf;exact fun pl ts x r pl1 h=>fY h
theorem wM{t:List UInt8}:∀(m a:Nat),t.length - a≤m→a≤t.length→(T t a).size≤t.length - a:=by
 intro m
 induction m with
 | zero=>intro a h1 h2;rw[vD (by omega)];exact Nat.zero_le _
 | succ m ih =>
  intro a h1 h2
  have hq:At t ((T t a).pos:Int) (T t a):=At.posn (p:=(a:Int)) ⟨by omega,by omega,by rw[Int.toNat_natCast]⟩
  have hp:=aC6 t _ a (Nat.le_refl _) h2
  generalize hts:T t a=ts at hq hp ⊢
  cases ts with
  | bad n=>exact Nat.zero_le _
  | eof n=>exact Nat.zero_le _
  | wd w n r =>
   obtain⟨_,_,b3,b4,b5⟩:=hq.wd
   obtain⟨c1,c2,c3⟩:=b4
   have hn:n=(Toks.wd w n r).pos:=rfl
   have ha:a≤n:=hp.1
   have:=ih (n+w.length) (by omega) (by omega)
   rw[Int.toNat_natCast]at c3
   rw[c3]at this
   simp only[Toks.size];omega
  | sg c n r =>
   obtain⟨_,_,_,b4,b5⟩:=hq.sg
   obtain⟨c1,c2,c3⟩:=b4
   have ha:a≤n:=hp.1
   have:=ih (n+1) (by omega) (by omega)
   rw[show((n:Int)+1).toNat=n+1 by omega]at c3
   rw[c3]at this
   simp only[Toks.size];omega
end Go.Proofs.YtacpjjgochokcaaDoor.T
