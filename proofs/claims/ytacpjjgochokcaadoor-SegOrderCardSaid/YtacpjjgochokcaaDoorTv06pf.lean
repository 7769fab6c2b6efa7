/- What rules as pieces say, or the first fault. -/
import Derived.Test.YtacpjjgochokcaaDoorTv06pdm
namespace Go.Proofs.YtacpjjgochokcaaDoor.T
open Go Go.Tv Go.Proofs
abbrev gJ:=List (List UInt8×Int)
abbrev look(sets:gJ)(w:List UInt8):Option Int:=bK .str sets w
def bR(n:Nat):Int:=IntKind.u32.wrap ((IntKind.u32.wrap ((1:Int)*2 ^ (min (n:Int).toNat IntKind.u32.bits))) - (1:Int))
def P9(n:Nat):Int:=IntKind.u32.wrap ((1:Int)*2 ^ (min (n:Int).toNat IntKind.u32.bits))
def jS(sets:gJ)(ts:Toks):(List UInt8×Int×Toks)⊕Er:=match iX ts with
 | .inr e=> .inr e
 | .inl (w,n,r)=>match look sets w with
  | some _=> .inr (23,n)
  | none=> .inl (w,n,r)
def mX(sets:gJ)(ts:Toks):(Int×Toks)⊕Er:=match iX ts with
 | .inr e=> .inr e
 | .inl (w,n,r)=>match look sets w with
  | some b=> .inl (b,r)
  | none=> .inr (22,n)
def cJ(cls:List (List UInt8))(w:List UInt8):Nat:=j6 (fun i=>cls.getD i [] == w) cls.length
def vS(cls:List (List UInt8))(ts:Toks):(Int×Toks)⊕Er:=match iX ts with
 | .inr e=> .inr e
 | .inl (w,n,r)=>if cJ cls w<cls.length then .inl ((cJ cls w:Int),r)else .inr (22,n)
def kA(c:Nat)(sets:gJ):Toks→Int→(Int×Toks)⊕Er
 | .bad n,_=> .inr (20,n)
 | .eof n,_=> .inr (21,n)
 | .sg d n r,b=>if d=c then .inl (b,r)else .inr (21,n)
 | .wd w n r,b=>match look sets w with
  | some x=>kA c sets r (aJ .or .u32 b x)
  | none=> .inr (22,n)
abbrev TR:=(Tree×Toks×Int)⊕Er
def xB:Toks→Bool
 | .wd _ _ _=>true
 | .sg d _ _=>d == 40 || d == 91 || d == 46
 | _=>false
def hH(E:Option (Int→Toks→TR))(wh:Int)(sets:gJ)(pl:Int):Toks→TR
 | .bad n=> .inr (20,n)
 | .eof n=> .inr (21,n)
 | .wd w n r=>if pl+1 > 200 then .inr (26,n)else match look sets w with
  | none=> .inr (22,n)
  | some b=> .inl (.node 1 b [],r,pl+1)
 | .sg d n r =>
  if d=40 then match E with
   | none=> .inr (25,n)
   | some f=>match f pl r with
    | .inr e=> .inr e
    | .inl (x,r1,pl1)=>match lL 41 r1 with
     | .inr e=> .inr e
     | .inl r2=> .inl (x,r2,pl1)
  else if pl+1 > 200 then .inr (26,n)
  else if d=46 then .inl (.node 1 wh [],r,pl+1)
  else match bF 94 r with
   | .inr e=> .inr e
   | .inl (neg,r1)=>match kA 93 sets r1 0 with
    | .inr e=> .inr e
    | .inl (b,r2)=> .inl (.node 1 (if neg then aJ .andNot .u32 wh b else b) [],r2,pl+1)
def lF(E:Option (Int→Toks→TR))(wh:Int)(sets:gJ)(pl:Int)(ts:Toks):TR:=match hH E wh sets pl ts with
 | .inr e=> .inr e
 | .inl (x,r,pl1)=>match r with
  | .bad n=> .inr (20,n)
  | .sg d n r1=>if d=42 then .inl (.node 4 0 [x],r1,pl1)else if d=43 then .inl (.node 5 0 [x],r1,pl1)else if d=63 then .inl (.node 6 0 [x],r1,pl1)else .inl (x,.sg d n r1,pl1)
  | .eof n=> .inl (x,.eof n,pl1)
  | .wd w n r1=> .inl (x,.wd w n r1,pl1)
def pS(E:Option (Int→Toks→TR))(wh:Int)(sets:gJ):Nat→Toks→Int→List Tree→(List Tree×Toks×Int)⊕Er
 | 0,ts,pl,acc=> .inl (acc,ts,pl)
 | f+1,ts,pl,acc=>match jQ ts with
  | .inr e=> .inr e
  | .inl _=>if xB ts then match lF E wh sets pl ts with
    | .inr e=> .inr e
    | .inl (x,r,pl1)=>pS E wh sets f r pl1 (acc++[x])
   else .inl (acc,ts,pl)
def kQ:List Tree→Tree
 | []=> .node 0 0 []
 | [x]=>x
 | l=> .node 2 0 l
def aFu:List Tree→Tree
 | [x]=>x
 | l=> .node 3 0 l
def vB(E:Option (Int→Toks→TR))(wh:Int)(sets:gJ)(pl:Int)(ts:Toks):TR:=match pS E wh sets (ts.size+1) ts pl []with
 | .inr e=> .inr e
 | .inl (l,r,pl1)=> .inl (kQ l,r,pl1)
def C4(E:Option (Int→Toks→TR))(wh:Int)(sets:gJ):Nat→Toks→Int→List Tree→(List Tree×Toks×Int)⊕Er
 | 0,ts,pl,acc=> .inl (acc,ts,pl)
 | f+1,ts,pl,acc=>match bF 124 ts with
  | .inr e=> .inr e
  | .inl (false,r)=> .inl (acc,r,pl)
  | .inl (true,r)=>match vB E wh sets pl r with
   | .inr e=> .inr e
   | .inl (x,r1,pl1)=>C4 E wh sets f r1 pl1 (acc++[x])
def pA(E:Option (Int→Toks→TR))(wh:Int)(sets:gJ)(pl:Int)(ts:Toks):TR:=match vB E wh sets pl ts with
 | .inr e=> .inr e
 | .inl (x,r,pl1)=>match C4 E wh sets (r.size+1) r pl1 [x]with
  | .inr e=> .inr e
  | .inl (l,r1,pl2)=> .inl (aFu l,r1,pl2)
def gU(wh:Int)(sets:gJ):Nat→Int→Toks→TR
 | 0=>pA none wh sets
 | d+1=>pA (some (gU wh sets d)) wh sets
abbrev RL:=List (Int×Tree×Tree)
structure PS where
 ts:Toks
 cls:List (List UInt8)
 join:Int
 after:Int
 treat:List Int
 list:RL
 sets:gJ
 pl:Int
def kZ:Nat→Toks→List (List UInt8)→List Int→gJ→(Toks×List (List UInt8)×List Int×gJ)⊕Er
 | 0,ts,cls,tr,sets=> .inl (ts,cls,tr,sets)
 | f+1,ts,cls,tr,sets=>match bF 59 ts with
  | .inr e=> .inr e
  | .inl (true,r)=> .inl (r,cls,tr,sets)
  | .inl (false,r)=>match jS sets r with
   | .inr e=> .inr e
   | .inl (w,n,r1)=>if cls.length≥24 then .inr (24,n)else kZ f r1 (cls++[w]) (tr++[(cls.length:Int)]) (sets++[(w,P9 cls.length)])
def aB2(sets:gJ)(ts:Toks):(Toks×gJ)⊕Er:=match jS sets ts with
 | .inr e=> .inr e
 | .inl (w,_,r)=>match lL 61 r with
  | .inr e=> .inr e
  | .inl r1=>match kA 59 sets r1 0 with
   | .inr e=> .inr e
   | .inl (b,r2)=> .inl (r2,sets++[(w,b)])
def B9(sets:gJ)(ts:Toks):(Toks×Int×Int)⊕Er:=match kA 47 sets ts 0 with
 | .inr e=> .inr e
 | .inl (b,r)=>match kA 59 sets r 0 with
  | .inr e=> .inr e
  | .inl (c,r1)=> .inl (r1,b,c)
def sZ(cls:List (List UInt8))(tr:List Int)(ts:Toks):(Toks×List Int)⊕Er:=match vS cls ts with
 | .inr e=> .inr e
 | .inl (a,r)=>match lL 61 r with
  | .inr e=> .inr e
  | .inl r1=>match vS cls r1 with
   | .inr e=> .inr e
   | .inl (b,r2)=>match lL 59 r2 with
    | .inr e=> .inr e
    | .inl r3=> .inl (r3,tr.set a.toNat b)
def sV(aBY:Int)(n:Int)(s:PS)(ts:Toks):(Toks×RL×Int)⊕Er :=
 if s.list.length≥24 then .inr (24,n)else match gU (bR s.cls.length) s.sets 16 s.pl ts with
 | .inr e=> .inr e
 | .inl (x,r,pl1)=>match lL 47 r with
  | .inr e=> .inr e
  | .inl r1=>match gU (bR s.cls.length) s.sets 16 pl1 r1 with
   | .inr e=> .inr e
   | .inl (y,r2,pl2)=>match lL 59 r2 with
    | .inr e=> .inr e
    | .inl r3=> .inl (r3,s.list++[(aBY,x,y)],pl2)
def does? (w:List UInt8):Option Int :=
 if w=[107,101,101,112]then some 0 else if w=[109,97,121]then some 1 else if w=[109,117,115,116]then some 2 else none
def oJ(s:PS)(w:List UInt8)(n:Int)(ts:Toks):PS⊕Er :=
 if w=[99,108,97,115,115]then match kZ (ts.size+1) ts s.cls s.treat s.sets with
  | .inr e=> .inr e
  | .inl (r,c,t,st)=> .inl { s with ts:=r,cls:=c,treat:=t,sets:=st }
 else if w=[115,101,116]then match aB2 s.sets ts with
  | .inr e=> .inr e
  | .inl (r,st)=> .inl { s with ts:=r,sets:=st }
 else if w=[106,111,105,110]then match B9 s.sets ts with
  | .inr e=> .inr e
  | .inl (r,b,c)=> .inl { s with ts:=r,join:=aJ .or .u32 s.join b,after:=aJ .or .u32 s.after c }
 else if w=[116,114,101,97,116]then match sZ s.cls s.treat ts with
  | .inr e=> .inr e
  | .inl (r,t)=> .inl { s with ts:=r,treat:=t }
 else match does? w with
  | none=> .inr (21,n)
  | some d=>match sV d n s ts with
   | .inr e=> .inr e
   | .inl (r,l,pl)=> .inl { s with ts:=r,list:=l,pl:=pl }
def C7:Nat→PS→PS⊕Er
 | 0,s=> .inl s
 | f+1,s=>match s.ts with
  | .bad n=> .inr (20,n)
  | .eof _=> .inl s
  | .sg _ n _=> .inr (21,n)
  | .wd w n r=>match oJ s w n r with
   | .inr e=> .inr e
   | .inl s1=>C7 f s1
def K8(ts:Toks):PS:=⟨ts,[],0,0,[],[],[],0⟩
/-! Sizes: what is taken. -/
theorem M1{ts:Toks}{w n r}(h:iX ts = .inl (w,n,r)):r.size+1=ts.size:=by
 cases ts <;> simp only[iX]at h <;> cases h
 rfl
theorem gR{c:Nat}{ts:Toks}{b r}(h:bF c ts = .inl (b,r)):r.size+(if b then 1 else 0)=ts.size:=by
 cases ts with
 | bad n=>cases h
 | eof n=>cases h;rfl
 | wd w n r=>cases h;rfl
 | sg d n r =>
  simp only[bF]at h
  split at h <;> cases h <;> rfl
theorem eG{c:Nat}{ts r:Toks}(h:lL c ts = .inl r):r.size+1=ts.size:=by
 cases ts with
 | bad n=>cases h
 | eof n=>cases h
 | wd w n r=>cases h
 | sg d n r =>
  simp only[lL]at h
  split at h <;> cases h
  rfl
theorem mE{sets:gJ}{ts:Toks}{w n r}(h:jS sets ts = .inl (w,n,r)):r.size+1=ts.size:=by
 unfold jS at h
 split at h
 ·cases h
 ·split at h <;> cases h
  exact M1 (by assumption)
theorem uJ{cls}{ts:Toks}{b r}(h:vS cls ts = .inl (b,r)):r.size+1=ts.size:=by
 unfold vS at h
 split at h
 ·cases h
 ·split at h <;> cases h
  exact M1 (by assumption)
theorem iR{c:Nat}{sets:gJ}:∀ {ts:Toks} {b x r},kA c sets ts b = .inl (x,r)→r.size+1≤ts.size
 | .bad n,b,x,r,h=>by cases h
 | .eof n,b,x,r,h=>by cases h
 | .sg d n r',b,x,r,h=>by
  simp only[kA]at h
  split at h <;> cases h
  exact Nat.le_refl _
 | .wd w n r',b,x,r,h=>by
  simp only[kA]at h
  split at h
  ·have:=iR h
   simp only[Toks.size];omega
  ·cases h
def rT(E:Option (Int→Toks→TR)):Prop:=∀f,E=some f→∀pl ts x r pl1,f pl ts = .inl (x,r,pl1)→r.size≤ts.size
theorem zH{E wh sets}(hE:rT E){pl:Int}{ts:Toks}{x r pl1}(h:hH E wh sets pl ts = .inl (x,r,pl1)):r.size+1≤ts.size:=by
 cases ts with
 | bad n=>cases h
 | eof n=>cases h
 | wd w n r' =>
  simp only[hH]at h
  split at h
  ·cases h
  ·split at h <;> cases h
   simp[Toks.size]
 | sg d n r' =>
  simp only[hH]at h
  split at h
  ·split at h
   ·cases h
   ·rename_i f
    split at h
    ·cases h
    ·rename_i x1 r1 pl1 h1
     split at h
     ·cases h
     ·rename_i r2 h2
      cases h
      have a:=hE f rfl _ _ _ _ _ h1
      have b:=eG h2
      simp only[Toks.size];omega
  ·split at h
   ·cases h
   ·split at h
    ·cases h;simp[Toks.size]
    ·split at h
     ·cases h
     ·rename_i neg r1 h1
      split at h
      ·cases h
      ·rename_i b r2 h2
       cases h
       have a:=gR h1
       have b:=iR h2
       simp only[Toks.size]
       split at a <;> omega
theorem tM{E wh sets}(hE:rT E){pl:Int}{ts:Toks}{x r pl1}(h:lF E wh sets pl ts = .inl (x,r,pl1)):r.size+1≤ts.size:=by
 unfold lF at h
 split at h
 ·cases h
 ·rename_i x1 r1 p1 h1
  have a:=zH hE h1
  split at h
  ·cases h
  ·rename_i d n r2
   simp only[Toks.size]at a
   split at h
   ·cases h;omega
   ·split at h
    ·cases h;omega
    ·split at h <;> cases h
     ·omega
     ·simp only[Toks.size];omega
  ·cases h;exact a
  ·cases h;exact a
theorem S5{E wh sets}(hE:rT E):∀ {f:Nat} {ts:Toks} {pl acc l r pl1},pS E wh sets f ts pl acc = .inl (l,r,pl1)→r.size≤ts.size
 | 0,ts,pl,acc,l,r,pl1,h=>by cases h;exact Nat.le_refl _
 | f+1,ts,pl,acc,l,r,pl1,h=>by
  simp only[pS]at h
  split at h
  ·cases h
  ·split at h
   ·split at h
    ·cases h
    ·rename_i h1
     have a:=tM hE h1
     have b:=S5 hE h
     omega
   ·cases h;exact Nat.le_refl _
theorem nW{E wh sets}(hE:rT E){pl ts x r pl1}(h:vB E wh sets pl ts = .inl (x,r,pl1)):r.size≤ts.size:=by
 unfold vB at h
 split at h
 ·cases h
 ·rename_i h1
  cases h
  exact S5 hE h1
theorem R4{E wh sets}(hE:rT E):∀ {f:Nat} {ts:Toks} {pl acc l r pl1},C4 E wh sets f ts pl acc = .inl (l,r,pl1)→r.size≤ts.size
 | 0,ts,pl,acc,l,r,pl1,h=>by cases h;exact Nat.le_refl _
 | f+1,ts,pl,acc,l,r,pl1,h=>by
  simp only[C4]at h
  split at h
  ·cases h
  ·rename_i h1
   cases h
   have:=gR h1
   simp only[Bool.false_eq_true,if_false]at this
   omega
  ·rename_i h1
   have a:=gR h1
   simp only[if_true]at a
   split at h
   ·cases h
   ·rename_i h2
    have b:=nW hE h2
    have c:=R4 hE h
    omega
theorem N7{E wh sets}(hE:rT E){pl ts x r pl1}(h:pA E wh sets pl ts = .inl (x,r,pl1)):r.size≤ts.size:=by
 unfold pA at h
 split at h
 ·cases h
 ·rename_i h1
  split at h
  ·cases h
  ·rename_i h2
   cases h
   have a:=nW hE h1
   have b:=R4 hE h2
   omega
theorem uB:rT none:=fun f h=>by cases h
theorem fY{wh sets}:∀ {d:Nat} {pl ts x r pl1},gU wh sets d pl ts = .inl (x,r,pl1)→r.size≤ts.size
 | 0,_,_,_,_,_,h=>N7 uB h
 | d+1,_,_,_,_,_,h=>N7 (fun f hf=>by cases hf;exact fun pl ts x r pl1 h=>fY h) h
theorem yO{wh sets d}:rT (some (gU wh sets d)):=fun f hf=>by cases hf;exact fun pl ts x r pl1 h=>fY h
theorem vG{t:List UInt8}:∀(m a:Nat),t.length - a≤m→a≤t.length→(T t a).size≤t.length - a:=by
 intro m
 induction m with
 | zero=>intro a h1 h2;rw[uP (by omega)];exact Nat.zero_le _
 | succ m ih =>
  intro a h1 h2
  have hq:At t ((T t a).pos:Int) (T t a):=At.posn (p:=(a:Int)) ⟨by omega,by omega,by rw[Int.toNat_natCast]⟩
  have hp:=aC0 t _ a (Nat.le_refl _) h2
  generalize hts:T t a=ts at hq hp ⊢
  cases ts with
  | bad n=>exact Nat.zero_le _
  | eof n=>exact Nat.zero_le _
  | wd w n r =>
   obtain⟨_,_,b3,b4,b5⟩:=hq.wd
   obtain⟨c1,c2,c3⟩:=b4
   have hn:n=(Toks.wd w n r).pos:=rfl
   have ha:a≤n:=hp.1
   have:=ih (n+w.length) (by omega) (by omega)
   rw[Int.toNat_natCast]at c3
   rw[c3]at this
   simp only[Toks.size];omega
  | sg c n r =>
   obtain⟨_,_,_,b4,b5⟩:=hq.sg
   obtain⟨c1,c2,c3⟩:=b4
   have ha:a≤n:=hp.1
   have:=ih (n+1) (by omega) (by omega)
   rw[show((n:Int)+1).toNat=n+1 by omega]at c3
   rw[c3]at this
   simp only[Toks.size];omega
end Go.Proofs.YtacpjjgochokcaaDoor.T
