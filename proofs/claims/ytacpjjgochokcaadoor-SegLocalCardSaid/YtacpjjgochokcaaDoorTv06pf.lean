/- What rules as pieces say, or the first fault. -/
import Derived.Test.YtacpjjgochokcaaDoorTv06pdm
namespace Go.Proofs.YtacpjjgochokcaaDoor.T
open Go Go.Tv Go.Proofs
abbrev fI:=List (List UInt8×Int)
abbrev look(sets:fI)(w:List UInt8):Option Int:=bF .str sets w
def b9(n:Nat):Int:=IntKind.u32.wrap ((IntKind.u32.wrap ((1:Int)*2 ^ (min (n:Int).toNat IntKind.u32.bits))) - (1:Int))
def W0(n:Nat):Int:=IntKind.u32.wrap ((1:Int)*2 ^ (min (n:Int).toNat IntKind.u32.bits))
def kO(sets:fI)(ts:Toks):(List UInt8×Int×Toks)⊕Er:=match kU ts with
 | .inr e=> .inr e
 | .inl (w,n,r)=>match look sets w with
  | some _=> .inr (23,n)
  | none=> .inl (w,n,r)
def zC(sets:fI)(ts:Toks):(Int×Toks)⊕Er:=match kU ts with
 | .inr e=> .inr e
 | .inl (w,n,r)=>match look sets w with
  | some b=> .inl (b,r)
  | none=> .inr (22,n)
def gB(cls:List (List UInt8))(w:List UInt8):Nat:=mC (fun i=>cls.getD i [] == w) cls.length
def zA(cls:List (List UInt8))(ts:Toks):(Int×Toks)⊕Er:=match kU ts with
 | .inr e=> .inr e
 | .inl (w,n,r)=>if gB cls w<cls.length then .inl ((gB cls w:Int),r)else .inr (22,n)
def kX(c:Nat)(sets:fI):Toks→Int→(Int×Toks)⊕Er
 | .bad n,_=> .inr (20,n)
 | .eof n,_=> .inr (21,n)
 | .sg d n r,b=>if d=c then .inl (b,r)else .inr (21,n)
 | .wd w n r,b=>match look sets w with
  | some x=>kX c sets r (aG .or .u32 b x)
  | none=> .inr (22,n)
abbrev TR:=(Tree×Toks×Int)⊕Er
def B0:Toks→Bool
 | .wd _ _ _=>true
 | .sg d _ _=>d == 40 || d == 91 || d == 46
 | _=>false
def iG(E:Option (Int→Toks→TR))(wh:Int)(sets:fI)(pl:Int):Toks→TR
 | .bad n=> .inr (20,n)
 | .eof n=> .inr (21,n)
 | .wd w n r=>if pl+1 > 200 then .inr (26,n)else match look sets w with
  | none=> .inr (22,n)
  | some b=> .inl (.node 1 b [],r,pl+1)
 | .sg d n r =>
  if d=40 then match E with
   | none=> .inr (25,n)
   | some f=>match f pl r with
    | .inr e=> .inr e
    | .inl (x,r1,pl1)=>match mV 41 r1 with
     | .inr e=> .inr e
     | .inl r2=> .inl (x,r2,pl1)
  else if pl+1 > 200 then .inr (26,n)
  else if d=46 then .inl (.node 1 wh [],r,pl+1)
  else match dX 94 r with
   | .inr e=> .inr e
   | .inl (neg,r1)=>match kX 93 sets r1 0 with
    | .inr e=> .inr e
    | .inl (b,r2)=> .inl (.node 1 (if neg then aG .andNot .u32 wh b else b) [],r2,pl+1)
def j5(E:Option (Int→Toks→TR))(wh:Int)(sets:fI)(pl:Int)(ts:Toks):TR:=match iG E wh sets pl ts with
 | .inr e=> .inr e
 | .inl (x,r,pl1)=>match r with
  | .bad n=> .inr (20,n)
  | .sg d n r1=>if d=42 then .inl (.node 4 0 [x],r1,pl1)else if d=43 then .inl (.node 5 0 [x],r1,pl1)else if d=63 then .inl (.node 6 0 [x],r1,pl1)else .inl (x,.sg d n r1,pl1)
  | .eof n=> .inl (x,.eof n,pl1)
  | .wd w n r1=> .inl (x,.wd w n r1,pl1)
def qX(E:Option (Int→Toks→TR))(wh:Int)(sets:fI):Nat→Toks→Int→List Tree→(List Tree×Toks×Int)⊕Er
 | 0,ts,pl,acc=> .inl (acc,ts,pl)
 | f+1,ts,pl,acc=>match iQ ts with
  | .inr e=> .inr e
  | .inl _=>if B0 ts then match j5 E wh sets pl ts with
    | .inr e=> .inr e
    | .inl (x,r,pl1)=>qX E wh sets f r pl1 (acc++[x])
   else .inl (acc,ts,pl)
def iK:List Tree→Tree
 | []=> .node 0 0 []
 | [x]=>x
 | l=> .node 2 0 l
def aDt:List Tree→Tree
 | [x]=>x
 | l=> .node 3 0 l
def z3(E:Option (Int→Toks→TR))(wh:Int)(sets:fI)(pl:Int)(ts:Toks):TR:=match qX E wh sets (ts.size+1) ts pl []with
 | .inr e=> .inr e
 | .inl (l,r,pl1)=> .inl (iK l,r,pl1)
def B8(E:Option (Int→Toks→TR))(wh:Int)(sets:fI):Nat→Toks→Int→List Tree→(List Tree×Toks×Int)⊕Er
 | 0,ts,pl,acc=> .inl (acc,ts,pl)
 | f+1,ts,pl,acc=>match dX 124 ts with
  | .inr e=> .inr e
  | .inl (false,r)=> .inl (acc,r,pl)
  | .inl (true,r)=>match z3 E wh sets pl r with
   | .inr e=> .inr e
   | .inl (x,r1,pl1)=>B8 E wh sets f r1 pl1 (acc++[x])
def oT(E:Option (Int→Toks→TR))(wh:Int)(sets:fI)(pl:Int)(ts:Toks):TR:=match z3 E wh sets pl ts with
 | .inr e=> .inr e
 | .inl (x,r,pl1)=>match B8 E wh sets (r.size+1) r pl1 [x]with
  | .inr e=> .inr e
  | .inl (l,r1,pl2)=> .inl (aDt l,r1,pl2)
def gZ(wh:Int)(sets:fI):Nat→Int→Toks→TR
 | 0=>oT none wh sets
 | d+1=>oT (some (gZ wh sets d)) wh sets
abbrev RL:=List (Int×Tree×Tree)
structure PS where
 ts:Toks
 cls:List (List UInt8)
 join:Int
 after:Int
 treat:List Int
 list:RL
 sets:fI
 pl:Int
def kL:Nat→Toks→List (List UInt8)→List Int→fI→(Toks×List (List UInt8)×List Int×fI)⊕Er
 | 0,ts,cls,tr,sets=> .inl (ts,cls,tr,sets)
 | f+1,ts,cls,tr,sets=>match dX 59 ts with
  | .inr e=> .inr e
  | .inl (true,r)=> .inl (r,cls,tr,sets)
  | .inl (false,r)=>match kO sets r with
   | .inr e=> .inr e
   | .inl (w,n,r1)=>if cls.length≥24 then .inr (24,n)else kL f r1 (cls++[w]) (tr++[(cls.length:Int)]) (sets++[(w,W0 cls.length)])
def aB4(sets:fI)(ts:Toks):(Toks×fI)⊕Er:=match kO sets ts with
 | .inr e=> .inr e
 | .inl (w,_,r)=>match mV 61 r with
  | .inr e=> .inr e
  | .inl r1=>match kX 59 sets r1 0 with
   | .inr e=> .inr e
   | .inl (b,r2)=> .inl (r2,sets++[(w,b)])
def w8(sets:fI)(ts:Toks):(Toks×Int×Int)⊕Er:=match kX 47 sets ts 0 with
 | .inr e=> .inr e
 | .inl (b,r)=>match kX 59 sets r 0 with
  | .inr e=> .inr e
  | .inl (c,r1)=> .inl (r1,b,c)
def rM(cls:List (List UInt8))(tr:List Int)(ts:Toks):(Toks×List Int)⊕Er:=match zA cls ts with
 | .inr e=> .inr e
 | .inl (a,r)=>match mV 61 r with
  | .inr e=> .inr e
  | .inl r1=>match zA cls r1 with
   | .inr e=> .inr e
   | .inl (b,r2)=>match mV 59 r2 with
    | .inr e=> .inr e
    | .inl r3=> .inl (r3,tr.set a.toNat b)
def G9(aEi:Int)(n:Int)(s:PS)(ts:Toks):(Toks×RL×Int)⊕Er :=
 if s.list.length≥24 then .inr (24,n)else match gZ (b9 s.cls.length) s.sets 16 s.pl ts with
 | .inr e=> .inr e
 | .inl (x,r,pl1)=>match mV 47 r with
  | .inr e=> .inr e
  | .inl r1=>match gZ (b9 s.cls.length) s.sets 16 pl1 r1 with
   | .inr e=> .inr e
   | .inl (y,r2,pl2)=>match mV 59 r2 with
    | .inr e=> .inr e
    | .inl r3=> .inl (r3,s.list++[(aEi,x,y)],pl2)
def does? (w:List UInt8):Option Int :=
 if w=[107,101,101,112]then some 0 else if w=[109,97,121]then some 1 else if w=[109,117,115,116]then some 2 else none
def oM(s:PS)(w:List UInt8)(n:Int)(ts:Toks):PS⊕Er :=
 if w=[99,108,97,115,115]then match kL (ts.size+1) ts s.cls s.treat s.sets with
  | .inr e=> .inr e
  | .inl (r,c,t,st)=> .inl { s with ts:=r,cls:=c,treat:=t,sets:=st }
 else if w=[115,101,116]then match aB4 s.sets ts with
  | .inr e=> .inr e
  | .inl (r,st)=> .inl { s with ts:=r,sets:=st }
 else if w=[106,111,105,110]then match w8 s.sets ts with
  | .inr e=> .inr e
  | .inl (r,b,c)=> .inl { s with ts:=r,join:=aG .or .u32 s.join b,after:=aG .or .u32 s.after c }
 else if w=[116,114,101,97,116]then match rM s.cls s.treat ts with
  | .inr e=> .inr e
  | .inl (r,t)=> .inl { s with ts:=r,treat:=t }
 else match does? w with
  | none=> .inr (21,n)
  | some d=>match G9 d n s ts with
   | .inr e=> .inr e
   | .inl (r,l,pl)=> .inl { s with ts:=r,list:=l,pl:=pl }
def K8:Nat→PS→PS⊕Er
 | 0,s=> .inl s
 | f+1,s=>match s.ts with
  | .bad n=> .inr (20,n)
  | .eof _=> .inl s
  | .sg _ n _=> .inr (21,n)
  | .wd w n r=>match oM s w n r with
   | .inr e=> .inr e
   | .inl s1=>K8 f s1
def J0(ts:Toks):PS:=⟨ts,[],0,0,[],[],[],0⟩
/-! Sizes: what is taken. -/
theorem xC{ts:Toks}{w n r}(h:kU ts = .inl (w,n,r)):r.size+1=ts.size:=by
 cases ts <;> simp only[kU]at h <;> cases h
 rfl
theorem iI{c:Nat}{ts:Toks}{b r}(h:dX c ts = .inl (b,r)):r.size+(if b then 1 else 0)=ts.size:=by
 cases ts with
 | bad n=>cases h
 | eof n=>cases h;rfl
 | wd w n r=>cases h;rfl
 | sg d n r =>
  simp only[dX]at h
  split at h <;> cases h <;> rfl
theorem iD{c:Nat}{ts r:Toks}(h:mV c ts = .inl r):r.size+1=ts.size:=by
 cases ts with
 | bad n=>cases h
 | eof n=>cases h
 | wd w n r=>cases h
 | sg d n r =>
  simp only[mV]at h
  split at h <;> cases h
  rfl
theorem pI{sets:fI}{ts:Toks}{w n r}(h:kO sets ts = .inl (w,n,r)):r.size+1=ts.size:=by
 unfold kO at h
 split at h
 ·cases h
 ·split at h <;> cases h
  exact xC (by assumption)
theorem E8{cls}{ts:Toks}{b r}(h:zA cls ts = .inl (b,r)):r.size+1=ts.size:=by
 unfold zA at h
 split at h
 ·cases h
 ·split at h <;> cases h
  exact xC (by assumption)
theorem l8{c:Nat}{sets:fI}:∀ {ts:Toks} {b x r},kX c sets ts b = .inl (x,r)→r.size+1≤ts.size
 | .bad n,b,x,r,h=>by cases h
 | .eof n,b,x,r,h=>by cases h
 | .sg d n r',b,x,r,h=>by
  simp only[kX]at h
  split at h <;> cases h
  exact Nat.le_refl _
 | .wd w n r',b,x,r,h=>by
  simp only[kX]at h
  split at h
  ·have:=l8 h
   simp only[Toks.size];omega
  ·cases h
def tA(E:Option (Int→Toks→TR)):Prop:=∀f,E=some f→∀pl ts x r pl1,f pl ts = .inl (x,r,pl1)→r.size≤ts.size
theorem R4{E wh sets}(hE:tA E){pl:Int}{ts:Toks}{x r pl1}(h:iG E wh sets pl ts = .inl (x,r,pl1)):r.size+1≤ts.size:=by
 cases ts with
 | bad n=>cases h
 | eof n=>cases h
 | wd w n r' =>
  simp only[iG]at h
  split at h
  ·cases h
  ·split at h <;> cases h
   simp[Toks.size]
 | sg d n r' =>
  simp only[iG]at h
  split at h
  ·split at h
   ·cases h
   ·rename_i f
    split at h
    ·cases h
    ·rename_i x1 r1 pl1 h1
     split at h
     ·cases h
     ·rename_i r2 h2
      cases h
      have a:=hE f rfl _ _ _ _ _ h1
      have b:=iD h2
      simp only[Toks.size];omega
  ·split at h
   ·cases h
   ·split at h
    ·cases h;simp[Toks.size]
    ·split at h
     ·cases h
     ·rename_i neg r1 h1
      split at h
      ·cases h
      ·rename_i b r2 h2
       cases h
       have a:=iI h1
       have b:=l8 h2
       simp only[Toks.size]
       split at a <;> omega
theorem pV{E wh sets}(hE:tA E){pl:Int}{ts:Toks}{x r pl1}(h:j5 E wh sets pl ts = .inl (x,r,pl1)):r.size+1≤ts.size:=by
 unfold j5 at h
 split at h
 ·cases h
 ·rename_i x1 r1 p1 h1
  have a:=R4 hE h1
  split at h
  ·cases h
  ·rename_i d n r2
   simp only[Toks.size]at a
   split at h
   ·cases h;omega
   ·split at h
    ·cases h;omega
    ·split at h <;> cases h
     ·omega
     ·simp only[Toks.size];omega
  ·cases h;exact a
  ·cases h;exact a
theorem F6{E wh sets}(hE:tA E):∀ {f:Nat} {ts:Toks} {pl acc l r pl1},qX E wh sets f ts pl acc = .inl (l,r,pl1)→r.size≤ts.size
 | 0,ts,pl,acc,l,r,pl1,h=>by cases h;exact Nat.le_refl _
 | f+1,ts,pl,acc,l,r,pl1,h=>by
  simp only[qX]at h
  split at h
  ·cases h
  ·split at h
   ·split at h
    ·cases h
    ·rename_i h1
     have a:=pV hE h1
     have b:=F6 hE h
     omega
   ·cases h;exact Nat.le_refl _
theorem qK{E wh sets}(hE:tA E){pl ts x r pl1}(h:z3 E wh sets pl ts = .inl (x,r,pl1)):r.size≤ts.size:=by
 unfold z3 at h
 split at h
 ·cases h
 ·rename_i h1
  cases h
  exact F6 hE h1
theorem D2{E wh sets}(hE:tA E):∀ {f:Nat} {ts:Toks} {pl acc l r pl1},B8 E wh sets f ts pl acc = .inl (l,r,pl1)→r.size≤ts.size
 | 0,ts,pl,acc,l,r,pl1,h=>by cases h;exact Nat.le_refl _
 | f+1,ts,pl,acc,l,r,pl1,h=>by
  simp only[B8]at h
  split at h
  ·cases h
  ·rename_i h1
   cases h
   have:=iI h1
   simp only[Bool.false_eq_true,if_false]at this
   omega
  ·rename_i h1
   have a:=iI h1
   simp only[if_true]at a
   split at h
   ·cases h
   ·rename_i h2
    have b:=qK hE h2
    have c:=D2 hE h
    omega
theorem xN{E wh sets}(hE:tA E){pl ts x r pl1}(h:oT E wh sets pl ts = .inl (x,r,pl1)):r.size≤ts.size:=by
 unfold oT at h
 split at h
 ·cases h
 ·rename_i h1
  split at h
  ·cases h
  ·rename_i h2
   cases h
   have a:=qK hE h1
   have b:=D2 hE h2
   omega
theorem uN:tA none:=fun f h=>by cases h
theorem jE{wh sets}:∀ {d:Nat} {pl ts x r pl1},gZ wh sets d pl ts = .inl (x,r,pl1)→r.size≤ts.size
 | 0,_,_,_,_,_,h=>xN uN h
 | d+1,_,_,_,_,_,h=>xN (fun f hf=>by cases hf;exact fun pl ts x r pl1 h=>jE h) h
theorem D1{wh sets d}:tA (some (gZ wh sets d)):=fun f hf=>by cases hf;exact fun pl ts x r pl1 h=>jE h
theorem M2{t:List UInt8}:∀(m a:Nat),t.length - a≤m→a≤t.length→(T t a).size≤t.length - a:=by
 intro m
 induction m with
 | zero=>intro a h1 h2;rw[vE (by omega)];exact Nat.zero_le _
 | succ m ih =>
  intro a h1 h2
  have hq:At t ((T t a).pos:Int) (T t a):=At.posn (p:=(a:Int)) ⟨by omega,by omega,by rw[Int.toNat_natCast]⟩
  have hp:=aAy t _ a (Nat.le_refl _) h2
  generalize hts:T t a=ts at hq hp ⊢
  cases ts with
  | bad n=>exact Nat.zero_le _
  | eof n=>exact Nat.zero_le _
  | wd w n r =>
   obtain⟨_,_,b3,b4,b5⟩:=hq.wd
   obtain⟨c1,c2,c3⟩:=b4
   have hn:n=(Toks.wd w n r).pos:=rfl
   have ha:a≤n:=hp.1
   have:=ih (n+w.length) (by omega) (by omega)
   rw[Int.toNat_natCast]at c3
   rw[c3]at this
   simp only[Toks.size];omega
  | sg c n r =>
   obtain⟨_,_,_,b4,b5⟩:=hq.sg
   obtain⟨c1,c2,c3⟩:=b4
   have ha:a≤n:=hp.1
   have:=ih (n+1) (by omega) (by omega)
   rw[show((n:Int)+1).toNat=n+1 by omega]at c3
   rw[c3]at this
   simp only[Toks.size];omega
end Go.Proofs.YtacpjjgochokcaaDoor.T
