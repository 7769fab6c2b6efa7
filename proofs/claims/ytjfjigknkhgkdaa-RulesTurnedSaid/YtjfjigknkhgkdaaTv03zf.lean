/- What rules as pieces say, or the first fault. -/
import Derived.Test.YtjfjigknkhgkdaaTv03ze
namespace Go.Proofs.Ytjfjigknkhgkdaa.T
open Go Go.Tv Go.Proofs
abbrev iF:=List (List UInt8×Int)
abbrev look(sets:iF)(w:List UInt8):Option Int:=dI .str sets w
def dM(n:Nat):Int:=IntKind.u32.wrap ((IntKind.u32.wrap ((1:Int)*2 ^ (min (n:Int).toNat IntKind.u32.bits))) - (1:Int))
def aAC(n:Nat):Int:=IntKind.u32.wrap ((1:Int)*2 ^ (min (n:Int).toNat IntKind.u32.bits))
def hU(sets:iF)(ts:Toks):(List UInt8×Int×Toks)⊕Er:=match gO ts with
 | .inr e=> .inr e
 | .inl (w,n,r)=>match look sets w with
  | some _=> .inr (23,n)
  | none=> .inl (w,n,r)
def jN(sets:iF)(ts:Toks):(Int×Toks)⊕Er:=match gO ts with
 | .inr e=> .inr e
 | .inl (w,n,r)=>match look sets w with
  | some b=> .inl (b,r)
  | none=> .inr (22,n)
def bZ(cls:List (List UInt8))(w:List UInt8):Nat:=gN (fun i=>cls.getD i [] == w) cls.length
def xB(cls:List (List UInt8))(ts:Toks):(Int×Toks)⊕Er:=match gO ts with
 | .inr e=> .inr e
 | .inl (w,n,r)=>if bZ cls w<cls.length then .inl ((bZ cls w:Int),r)else .inr (22,n)
def jG(c:Nat)(sets:iF):Toks→Int→(Int×Toks)⊕Er
 | .bad n,_=> .inr (20,n)
 | .eof n,_=> .inr (21,n)
 | .sg d n r,b=>if d=c then .inl (b,r)else .inr (21,n)
 | .wd w n r,b=>match look sets w with
  | some x=>jG c sets r (bY .or .u32 b x)
  | none=> .inr (22,n)
abbrev TR:=(Tree×Toks×Int)⊕Er
def xG:Toks→Bool
 | .wd _ _ _=>true
 | .sg d _ _=>d == 40 || d == 91 || d == 46
 | _=>false
def hX(E:Option (Int→Toks→TR))(wh:Int)(sets:iF)(pl:Int):Toks→TR
 | .bad n=> .inr (20,n)
 | .eof n=> .inr (21,n)
 | .wd w n r=>if pl+1 > 200 then .inr (26,n)else match look sets w with
  | none=> .inr (22,n)
  | some b=> .inl (.node 1 b [],r,pl+1)
 | .sg d n r =>
  if d=40 then match E with
   | none=> .inr (25,n)
   | some f=>match f pl r with
    | .inr e=> .inr e
    | .inl (x,r1,pl1)=>match kD 41 r1 with
     | .inr e=> .inr e
     | .inl r2=> .inl (x,r2,pl1)
  else if pl+1 > 200 then .inr (26,n)
  else if d=46 then .inl (.node 1 wh [],r,pl+1)
  else match bF 94 r with
   | .inr e=> .inr e
   | .inl (neg,r1)=>match jG 93 sets r1 0 with
    | .inr e=> .inr e
    | .inl (b,r2)=> .inl (.node 1 (if neg then bY .andNot .u32 wh b else b) [],r2,pl+1)
def lH(E:Option (Int→Toks→TR))(wh:Int)(sets:iF)(pl:Int)(ts:Toks):TR:=match hX E wh sets pl ts with
 | .inr e=> .inr e
 | .inl (x,r,pl1)=>match r with
  | .bad n=> .inr (20,n)
  | .sg d n r1=>if d=42 then .inl (.node 4 0 [x],r1,pl1)else if d=43 then .inl (.node 5 0 [x],r1,pl1)else if d=63 then .inl (.node 6 0 [x],r1,pl1)else .inl (x,.sg d n r1,pl1)
  | .eof n=> .inl (x,.eof n,pl1)
  | .wd w n r1=> .inl (x,.wd w n r1,pl1)
def rT(E:Option (Int→Toks→TR))(wh:Int)(sets:iF):Nat→Toks→Int→List Tree→(List Tree×Toks×Int)⊕Er
 | 0,ts,pl,acc=> .inl (acc,ts,pl)
 | f+1,ts,pl,acc=>match gS ts with
  | .inr e=> .inr e
  | .inl _=>if xG ts then match lH E wh sets pl ts with
    | .inr e=> .inr e
    | .inl (x,r,pl1)=>rT E wh sets f r pl1 (acc++[x])
   else .inl (acc,ts,pl)
def aBQ:List Tree→Tree
 | []=> .node 0 0 []
 | [x]=>x
 | l=> .node 2 0 l
def aB0:List Tree→Tree
 | [x]=>x
 | l=> .node 3 0 l
def qP(E:Option (Int→Toks→TR))(wh:Int)(sets:iF)(pl:Int)(ts:Toks):TR:=match rT E wh sets (ts.size+1) ts pl []with
 | .inr e=> .inr e
 | .inl (l,r,pl1)=> .inl (aBQ l,r,pl1)
def xP(E:Option (Int→Toks→TR))(wh:Int)(sets:iF):Nat→Toks→Int→List Tree→(List Tree×Toks×Int)⊕Er
 | 0,ts,pl,acc=> .inl (acc,ts,pl)
 | f+1,ts,pl,acc=>match bF 124 ts with
  | .inr e=> .inr e
  | .inl (false,r)=> .inl (acc,r,pl)
  | .inl (true,r)=>match qP E wh sets pl r with
   | .inr e=> .inr e
   | .inl (x,r1,pl1)=>xP E wh sets f r1 pl1 (acc++[x])
def mV(E:Option (Int→Toks→TR))(wh:Int)(sets:iF)(pl:Int)(ts:Toks):TR:=match qP E wh sets pl ts with
 | .inr e=> .inr e
 | .inl (x,r,pl1)=>match xP E wh sets (r.size+1) r pl1 [x]with
  | .inr e=> .inr e
  | .inl (l,r1,pl2)=> .inl (aB0 l,r1,pl2)
def iY(wh:Int)(sets:iF):Nat→Int→Toks→TR
 | 0=>mV none wh sets
 | d+1=>mV (some (iY wh sets d)) wh sets
abbrev RL:=List (Int×Tree×Tree)
structure PS where
 ts:Toks
 cls:List (List UInt8)
 join:Int
 after:Int
 treat:List Int
 list:RL
 sets:iF
 pl:Int
def lD:Nat→Toks→List (List UInt8)→List Int→iF→(Toks×List (List UInt8)×List Int×iF)⊕Er
 | 0,ts,cls,tr,sets=> .inl (ts,cls,tr,sets)
 | f+1,ts,cls,tr,sets=>match bF 59 ts with
  | .inr e=> .inr e
  | .inl (true,r)=> .inl (r,cls,tr,sets)
  | .inl (false,r)=>match hU sets r with
   | .inr e=> .inr e
   | .inl (w,n,r1)=>if cls.length≥24 then .inr (24,n)else lD f r1 (cls++[w]) (tr++[(cls.length:Int)]) (sets++[(w,aAC cls.length)])
def J6(sets:iF)(ts:Toks):(Toks×iF)⊕Er:=match hU sets ts with
 | .inr e=> .inr e
 | .inl (w,_,r)=>match kD 61 r with
  | .inr e=> .inr e
  | .inl r1=>match jG 59 sets r1 0 with
   | .inr e=> .inr e
   | .inl (b,r2)=> .inl (r2,sets++[(w,b)])
def vI(sets:iF)(ts:Toks):(Toks×Int×Int)⊕Er:=match jG 47 sets ts 0 with
 | .inr e=> .inr e
 | .inl (b,r)=>match jG 59 sets r 0 with
  | .inr e=> .inr e
  | .inl (c,r1)=> .inl (r1,b,c)
def pT(cls:List (List UInt8))(tr:List Int)(ts:Toks):(Toks×List Int)⊕Er:=match xB cls ts with
 | .inr e=> .inr e
 | .inl (a,r)=>match kD 61 r with
  | .inr e=> .inr e
  | .inl r1=>match xB cls r1 with
   | .inr e=> .inr e
   | .inl (b,r2)=>match kD 59 r2 with
    | .inr e=> .inr e
    | .inl r3=> .inl (r3,tr.set a.toNat b)
def nL(I2:Int)(n:Int)(s:PS)(ts:Toks):(Toks×RL×Int)⊕Er :=
 if s.list.length≥24 then .inr (24,n)else match iY (dM s.cls.length) s.sets 16 s.pl ts with
 | .inr e=> .inr e
 | .inl (x,r,pl1)=>match kD 47 r with
  | .inr e=> .inr e
  | .inl r1=>match iY (dM s.cls.length) s.sets 16 pl1 r1 with
   | .inr e=> .inr e
   | .inl (y,r2,pl2)=>match kD 59 r2 with
    | .inr e=> .inr e
    | .inl r3=> .inl (r3,s.list++[(I2,x,y)],pl2)
def does? (w:List UInt8):Option Int :=
 if w=[107,101,101,112]then some 0 else if w=[109,97,121]then some 1 else if w=[109,117,115,116]then some 2 else none
def lR(s:PS)(w:List UInt8)(n:Int)(ts:Toks):PS⊕Er :=
 if w=[99,108,97,115,115]then match lD (ts.size+1) ts s.cls s.treat s.sets with
  | .inr e=> .inr e
  | .inl (r,c,t,st)=> .inl { s with ts:=r,cls:=c,treat:=t,sets:=st }
 else if w=[115,101,116]then match J6 s.sets ts with
  | .inr e=> .inr e
  | .inl (r,st)=> .inl { s with ts:=r,sets:=st }
 else if w=[106,111,105,110]then match vI s.sets ts with
  | .inr e=> .inr e
  | .inl (r,b,c)=> .inl { s with ts:=r,join:=bY .or .u32 s.join b,after:=bY .or .u32 s.after c }
 else if w=[116,114,101,97,116]then match pT s.cls s.treat ts with
  | .inr e=> .inr e
  | .inl (r,t)=> .inl { s with ts:=r,treat:=t }
 else match does? w with
  | none=> .inr (21,n)
  | some d=>match nL d n s ts with
   | .inr e=> .inr e
   | .inl (r,l,pl)=> .inl { s with ts:=r,list:=l,pl:=pl }
def xI:Nat→PS→PS⊕Er
 | 0,s=> .inl s
 | f+1,s=>match s.ts with
  | .bad n=> .inr (20,n)
  | .eof _=> .inl s
  | .sg _ n _=> .inr (21,n)
  | .wd w n r=>match lR s w n r with
   | .inr e=> .inr e
   | .inl s1=>xI f s1
def J8(ts:Toks):PS:=⟨ts,[],0,0,[],[],[],0⟩
/-! Sizes: what is taken. -/
theorem uQ{ts:Toks}{w n r}(h:gO ts = .inl (w,n,r)):r.size+1=ts.size:=by
 cases ts <;> simp only[gO]at h <;> cases h
 rfl
theorem eF{c:Nat}{ts:Toks}{b r}(h:bF c ts = .inl (b,r)):r.size+(if b then 1 else 0)=ts.size:=by
 cases ts with
 | bad n=>cases h
 | eof n=>cases h;rfl
 | wd w n r=>cases h;rfl
 | sg d n r =>
  simp only[bF]at h
  split at h <;> cases h <;> rfl
theorem cK{c:Nat}{ts r:Toks}(h:kD c ts = .inl r):r.size+1=ts.size:=by
 cases ts with
 | bad n=>cases h
 | eof n=>cases h
 | wd w n r=>cases h
 | sg d n r =>
  simp only[kD]at h
  split at h <;> cases h
  rfl
theorem jD{sets:iF}{ts:Toks}{w n r}(h:hU sets ts = .inl (w,n,r)):r.size+1=ts.size:=by
 unfold hU at h
 split at h
 ·cases h
 ·split at h <;> cases h
  exact uQ (by assumption)
theorem oU{cls}{ts:Toks}{b r}(h:xB cls ts = .inl (b,r)):r.size+1=ts.size:=by
 unfold xB at h
 split at h
 ·cases h
 ·split at h <;> cases h
  exact uQ (by assumption)
theorem fR{c:Nat}{sets:iF}:∀ {ts:Toks} {b x r},jG c sets ts b = .inl (x,r)→r.size+1≤ts.size
 | .bad n,b,x,r,h=>by cases h
 | .eof n,b,x,r,h=>by cases h
 | .sg d n r',b,x,r,h=>by
  simp only[jG]at h
  split at h <;> cases h
  exact Nat.le_refl _
 | .wd w n r',b,x,r,h=>by
  simp only[jG]at h
  split at h
  ·have:=fR h
   simp only[Toks.size];omega
  ·cases h
def lQ(E:Option (Int→Toks→TR)):Prop:=∀f,E=some f→∀pl ts x r pl1,f pl ts = .inl (x,r,pl1)→r.size≤ts.size
theorem tV{E wh sets}(hE:lQ E){pl:Int}{ts:Toks}{x r pl1}(h:hX E wh sets pl ts = .inl (x,r,pl1)):r.size+1≤ts.size:=by
 cases ts with
 | bad n=>cases h
 | eof n=>cases h
 | wd w n r' =>
  simp only[hX]at h
  split at h
  ·cases h
  ·split at h <;> cases h
   simp[Toks.size]
 | sg d n r' =>
  simp only[hX]at h
  split at h
  ·split at h
   ·cases h
   ·rename_i f
    split at h
    ·cases h
    ·rename_i x1 r1 pl1 h1
     split at h
     ·cases h
     ·rename_i r2 h2
      cases h
      have a:=hE f rfl _ _ _ _ _ h1
      have b:=cK h2
      simp only[Toks.size];omega
  ·split at h
   ·cases h
   ·split at h
    ·cases h;simp[Toks.size]
    ·split at h
     ·cases h
     ·rename_i neg r1 h1
      split at h
      ·cases h
      ·rename_i b r2 h2
       cases h
       have a:=eF h1
       have b:=fR h2
       simp only[Toks.size]
       split at a <;> omega
theorem nQ{E wh sets}(hE:lQ E){pl:Int}{ts:Toks}{x r pl1}(h:lH E wh sets pl ts = .inl (x,r,pl1)):r.size+1≤ts.size:=by
 unfold lH at h
 split at h
 ·cases h
 ·rename_i x1 r1 p1 h1
  have a:=tV hE h1
  split at h
  ·cases h
  ·rename_i d n r2
   simp only[Toks.size]at a
   split at h
   ·cases h;omega
   ·split at h
    ·cases h;omega
    ·split at h <;> cases h
     ·omega
     ·simp only[Toks.size];omega
  ·cases h;exact a
  ·cases h;exact a
theorem yD{E wh sets}(hE:lQ E):∀ {f:Nat} {ts:Toks} {pl acc l r pl1},rT E wh sets f ts pl acc = .inl (l,r,pl1)→r.size≤ts.size
 | 0,ts,pl,acc,l,r,pl1,h=>by cases h;exact Nat.le_refl _
 | f+1,ts,pl,acc,l,r,pl1,h=>by
  simp only[rT]at h
  split at h
  ·cases h
  ·split at h
   ·split at h
    ·cases h
    ·rename_i h1
     have a:=nQ hE h1
     have b:=yD hE h
     omega
   ·cases h;exact Nat.le_refl _
theorem gZ{E wh sets}(hE:lQ E){pl ts x r pl1}(h:qP E wh sets pl ts = .inl (x,r,pl1)):r.size≤ts.size:=by
 unfold qP at h
 split at h
 ·cases h
 ·rename_i h1
  cases h
  exact yD hE h1
theorem yA{E wh sets}(hE:lQ E):∀ {f:Nat} {ts:Toks} {pl acc l r pl1},xP E wh sets f ts pl acc = .inl (l,r,pl1)→r.size≤ts.size
 | 0,ts,pl,acc,l,r,pl1,h=>by cases h;exact Nat.le_refl _
 | f+1,ts,pl,acc,l,r,pl1,h=>by
  simp only[xP]at h
  split at h
  ·cases h
  ·rename_i h1
   cases h
   have:=eF h1
   simp only[Bool.false_eq_true,if_false]at this
   omega
  ·rename_i h1
   have a:=eF h1
   simp only[if_true]at a
   split at h
   ·cases h
   ·rename_i h2
    have b:=gZ hE h2
    have c:=yA hE h
    omega
theorem uR{E wh sets}(hE:lQ E){pl ts x r pl1}(h:mV E wh sets pl ts = .inl (x,r,pl1)):r.size≤ts.size:=by
 unfold mV at h
 split at h
 ·cases h
 ·rename_i h1
  split at h
  ·cases h
  ·rename_i h2
   cases h
   have a:=gZ hE h1
   have b:=yA hE h2
   omega
theorem oV:lQ none:=fun f h=>by cases h
theorem dL{wh sets}:∀ {d:Nat} {pl ts x r pl1},iY wh sets d pl ts = .inl (x,r,pl1)→r.size≤ts.size
 | 0,_,_,_,_,_,h=>uR oV h
 | d+1,_,_,_,_,_,h=>uR (fun f hf=>by cases hf;exact fun pl ts x r pl1 h=>dL h) h
theorem sG{wh sets d}:lQ (some (iY wh sets d)):=fun f hf=>by cases hf;exact fun pl ts x r pl1 h=>dL h
theorem qK{t:List UInt8}:∀(m a:Nat),t.length - a≤m→a≤t.length→(T t a).size≤t.length - a:=by
 intro m
 induction m with
 | zero=>intro a h1 h2;rw[pL (by omega)];exact Nat.zero_le _
 | succ m ih =>
  intro a h1 h2
  have hq:At t ((T t a).pos:Int) (T t a):=At.posn (p:=(a:Int)) ⟨by omega,by omega,by rw[Int.toNat_natCast]⟩
  have hp:=M6 t _ a (Nat.le_refl _) h2
  generalize hts:T t a=ts at hq hp ⊢
  cases ts with
  | bad n=>exact Nat.zero_le _
  | eof n=>exact Nat.zero_le _
  | wd w n r =>
   obtain⟨_,_,b3,b4,b5⟩:=hq.wd
   obtain⟨c1,c2,c3⟩:=b4
   have hn:n=(Toks.wd w n r).pos:=rfl
   have ha:a≤n:=hp.1
   have:=ih (n+w.length) (by omega) (by omega)
   rw[Int.toNat_natCast]at c3
   rw[c3]at this
   simp only[Toks.size];omega
  | sg c n r =>
   obtain⟨_,_,_,b4,b5⟩:=hq.sg
   obtain⟨c1,c2,c3⟩:=b4
   have ha:a≤n:=hp.1
   have:=ih (n+1) (by omega) (by omega)
   rw[show((n:Int)+1).toNat=n+1 by omega]at c3
   rw[c3]at this
   simp only[Toks.size];omega
end Go.Proofs.Ytjfjigknkhgkdaa.T
