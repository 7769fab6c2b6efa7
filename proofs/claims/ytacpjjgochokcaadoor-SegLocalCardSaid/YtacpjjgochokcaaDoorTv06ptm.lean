/- A plan's text as pieces. -/
import Derived.Test.YtacpjjgochokcaaDoorTv06pdm
import Derived.Test.YtacpjjgochokcaaDoorTv06pqm
import Derived.Test.YtacpjjgochokcaaDoorTv06pf
namespace Go.Proofs.YtacpjjgochokcaaDoor.T
open Go Go.Tv Go.Proofs
inductive K where
 | w (x:List UInt8)
 | s (c:Nat)
def Kd:Toks→List K→Prop
 | .eof _,[]=>True
 | .wd w _ r,.w x::l=>w=x∧Kd r l
 | .sg c _ r,.s d::l=>c=d∧Kd r l
 | _,_=>False
def Lx(l:List UInt8)(ks:List K):Prop:=∀n,Kd (tk (some 0) l n) ks
def NL(l:List UInt8):Prop:=∀c r,l=c::r→d8 c.toNat=false
theorem aF9:Lx [] []:=fun _=>trivial
theorem aGQ{c:UInt8}{r ks}(h35:c.toNat≠35)(hb:sM c.toNat=true)(h:Lx r ks):Lx (c::r) ks:=fun n=>by
 simp only[tk];rw[if_neg h35,if_pos hb];exact h _
theorem aHq{c:UInt8}{r ks}(h35:c.toNat≠35)(hb:sM c.toNat=false)(hl:d8 c.toNat=false)(hs:tU c.toNat=true)(h:Lx r ks):Lx (c::r) (.s c.toNat::ks):=fun n=>by
 simp only[tk];rw[if_neg h35,if_neg (by rw[hb];decide),if_neg (by rw[hl];decide),if_pos hs];exact⟨rfl,h _⟩
theorem aBK{w r:List UInt8}(hw:∀c∈w,d8 c.toNat=true)(hr:NL r):(w++r).takeWhile (fun x=>d8 x.toNat)=w:=by
 induction w with
 | nil =>
  cases r with
  | nil=>rfl
  | cons c r=>simp only[List.nil_append,List.takeWhile_cons,hr c r rfl];rfl
 | cons c w ih =>
  rw[List.cons_append,List.takeWhile_cons,if_pos (hw c (by simp)),ih (fun x hx=>hw x (by simp[hx]))]
theorem aBf{c:Nat}(h:d8 c=true):c≠35∧sM c=false:=by
 refine⟨fun hh=>(by subst hh;cases h),?_⟩
 cases hb:sM c with
 | false=>rfl
 | true =>
  simp only[sM,Bool.or_eq_true,beq_iff_eq]at hb
  rcases hb with((rfl | rfl) | rfl) | rfl <;> cases h
theorem aG6{w r:List UInt8}{ks}(h0:w≠[])(hw:∀c∈w,d8 c.toNat=true)(hr:NL r)(h:Lx r ks):Lx (w++r) (.w w::ks):=fun n=>by
 match w,h0 with
 | c::w,_ =>
  have hc:=hw c (by simp)
  have ht:=aBK (w:=w) (r:=r) (fun x hx=>hw x (by simp[hx])) hr
  rw[List.cons_append]
  simp only[tk]
  rw[if_neg (aBf hc).1,if_neg (by rw[(aBf hc).2];decide),if_pos hc,ht,J9 _ _ _ (by simp)]
  refine⟨rfl,?_⟩
  rw[List.drop_left]
  exact h _
def Px(x:List UInt8)(ks:List K):Prop:=∀r ls,Lx r ls→Lx (x++r) (ks++ls)
def Qx(x:List UInt8)(ks:List K):Prop:=∀r ls,NL r→Lx r ls→Lx (x++r) (ks++ls)
theorem Px.app{x y ks ls}(h1:Px x ks)(h2:Px y ls):Px (x++y) (ks++ls):=fun r ms h=>by
 rw[List.append_assoc,List.append_assoc];exact h1 _ _ (h2 _ _ h)
theorem Px.q{x y ks ls}(h1:Px x ks)(h2:Qx y ls):Qx (x++y) (ks++ls):=fun r ms hn h=>by
 rw[List.append_assoc,List.append_assoc];exact h1 _ _ (h2 _ _ hn h)
theorem Qx.app{x y ks ls}{c:UInt8}{y':List UInt8}(h1:Qx x ks)(hy:y=c::y')(hc:d8 c.toNat=false)(h2:Px y ls):Px (x++y) (ks++ls):=fun r ms h=>by
 rw[List.append_assoc,List.append_assoc]
 exact h1 _ _ (fun d q hd=>by rw[hy,List.cons_append]at hd;cases hd;exact hc) (h2 _ _ h)
theorem Qx.qapp{x y ks ls}{c:UInt8}{y':List UInt8}(h1:Qx x ks)(hy:y=c::y')(hc:d8 c.toNat=false)(h2:Qx y ls):Qx (x++y) (ks++ls):=fun r ms hn h=>by
 rw[List.append_assoc,List.append_assoc]
 exact h1 _ _ (fun d q hd=>by rw[hy,List.cons_append]at hd;cases hd;exact hc) (h2 _ _ hn h)
theorem Px.toQ{x ks}(h:Px x ks):Qx x ks:=fun r ls _=>h r ls
theorem aFV:Px [] []:=fun _ _ h=>h
theorem aFf(c:UInt8)(h35:c.toNat≠35)(hb:sM c.toNat=true):Px [c] []:=fun _ _ h=>aGQ h35 hb h
theorem nE(c:UInt8)(h35:c.toNat≠35)(hb:sM c.toNat=false)(hl:d8 c.toNat=false)(hs:tU c.toNat=true):Px [c] [.s c.toNat]:=fun _ _ h=>aHq h35 hb hl hs h
theorem aC1{w:List UInt8}(h0:w≠[])(hw:∀c∈w,d8 c.toNat=true):Qx w [.w w]:=fun _ _ hr h=>aG6 h0 hw hr h
theorem aAN:Px [32] []∧Px [10] []∧Px [40] [.s 40]∧Px [41] [.s 41]∧Px [91] [.s 91]∧Px [93] [.s 93]∧Px [94] [.s 94]∧Px [124] [.s 124]∧Px [42] [.s 42]∧Px [43] [.s 43]∧Px [63] [.s 63]∧Px [46] [.s 46]∧Px [59] [.s 59]∧Px [47] [.s 47]∧Px [61] [.s 61] :=
 ⟨aFf 32 (by decide) (by decide),aFf 10 (by decide) (by decide),nE 40 (by decide) (by decide) (by decide) (by decide),nE 41 (by decide) (by decide) (by decide) (by decide),nE 91 (by decide) (by decide) (by decide) (by decide),nE 93 (by decide) (by decide) (by decide) (by decide),nE 94 (by decide) (by decide) (by decide) (by decide),nE 124 (by decide) (by decide) (by decide) (by decide),nE 42 (by decide) (by decide) (by decide) (by decide),nE 43 (by decide) (by decide) (by decide) (by decide),nE 63 (by decide) (by decide) (by decide) (by decide),nE 46 (by decide) (by decide) (by decide) (by decide),nE 59 (by decide) (by decide) (by decide) (by decide),nE 47 (by decide) (by decide) (by decide) (by decide),nE 61 (by decide) (by decide) (by decide) (by decide)⟩
theorem aBG{n i:Nat}(h1:1≤n)(h6:n≤6):(qR n i).toNat=65+i % n:=by
 have:i % n<n:=Nat.mod_lt _ (by omega)
 unfold qR
 simp
 omega
theorem aEY{n i:Nat}(h1:1≤n)(h6:n≤6):d8 (qR n i).toNat=true:=by
 have h:i % n<n:=Nat.mod_lt _ (by omega)
 rw[aBG h1 h6]
 have key:∀m,m<6→d8 (65+m)=true:=by decide
 exact key _ (by omega)
def nmK(n i:Nat):K:= .w [qR n i]
theorem aDA{n i:Nat}(h1:1≤n)(h6:n≤6):Qx [qR n i] [nmK n i]:=aC1 (by simp) (fun c hc=>by cases List.mem_singleton.mp hc;exact aEY h1 h6)
def dT(n b:Nat):Nat→List (List UInt8)
 | 0=>[]
 | k+1=>dT n b k++(if b / 2 ^ k % 2=1 then[[qR n k]]else[])
theorem U5{n:Nat}(h1:1≤n)(h6:n≤6)(b:Nat):∀k,Qx (sH n b k) ((dT n b k).map .w)∧(sH n b k=[]∨∃y,sH n b k=32::y)
 | 0=>⟨aFV.toQ,Or.inl rfl⟩
 | k+1=>by
  obtain⟨ih1,ih2⟩:=U5 h1 h6 b k
  simp only[sH,dT]
  split
  ·refine⟨?_,?_⟩
   ·rw[List.map_append]
    exact ih1.qapp (c:=32) (y':=[qR n k]) rfl (by decide) (aAN.1.q (aDA h1 h6))
   ·rcases ih2 with h | ⟨y,h⟩
    ·exact Or.inr ⟨[qR n k],by rw[h];rfl⟩
    ·exact Or.inr ⟨y++[32,qR n k],by rw[h];rfl⟩
  ·simpa using⟨ih1,ih2⟩
theorem aCp{n:Nat}(h1:1≤n)(h6:n≤6)(b:Nat){y ls}{c:UInt8}{y':List UInt8}(hy:y=c::y')(hc:d8 c.toNat=false)(h2:Px y ls):Px (sH n b n++y) ((dT n b n).map .w++ls) :=
 (U5 h1 h6 b n).1.app hy hc h2
def xJ(n:Nat):Ex→List K
 | .nm k=>[nmK n k]
 | .any=>[.s 46]
 | .set neg b=>(if neg then[.s 91,.s 94]else[.s 91])++(dT n b n).map .w++[.s 93]
 | .star a=> .s 40::(xJ n a++[.s 41,.s 42])
 | .plus a=> .s 40::(xJ n a++[.s 41,.s 43])
 | .opt a=> .s 40::(xJ n a++[.s 41,.s 63])
 | .alt a b=> .s 40::(xJ n a ++ .s 124::(xJ n b++[.s 41]))
 | .seq a b=>xJ n a++xJ n b
def aBs(n:Nat):Option Ex→List K
 | none=>[]
 | some e=>xJ n e
def E2(n:Nat):List K:= .w [99,108,97,115,115]::((dT n 255 n).map .w++[.s 59])
def aCA(n:Nat)(j a:Int):List K:=if j=0 then[]else .w [106,111,105,110]::((dT n j.toNat n).map .w ++ .s 47::((dT n a.toNat n).map .w++[.s 59]))
def trK(n:Nat)(tr:List Int):Nat→List K
 | 0=>[]
 | k+1=>trK n tr k++[.w [116,114,101,97,116],nmK n k,.s 61,nmK n (tr.getD k 0).toNat,.s 59]
def pP(d:Int):List UInt8:=([([107,101,101,112]:List UInt8),([109,97,121]:List UInt8),([109,117,115,116]:List UInt8)]:List (List UInt8)).getD (Int.tmod d 3).toNat []
def ruK(n:Nat)(l:List PR):Nat→List K
 | 0=>[]
 | k+1=>ruK n l k++(.w (pP (l.getD k L5).1)::(aBs n (wM (l.getD k L5).2.1) ++ .s 47::(aBs n (wM (l.getD k L5).2.2)++[.s 59])))
def R2(c j a:Int)(tr:List Int)(l:List PR):List K:=E2 (iZ c)++(aCA (iZ c) j a++(trK (iZ c) tr (min tr.length (iZ c))++ruK (iZ c) l (min l.length 10)))
theorem aEU{w:List UInt8}(h0:w≠[])(hw:∀c∈w,d8 c.toNat=true):Px (w++[32]) [.w w]:=(aC1 h0 hw).app (y:=[32]) rfl (by decide) aAN.1
end Go.Proofs.YtacpjjgochokcaaDoor.T
namespace Go.Proofs.YtacpjjgochokcaaDoor.T
open Go Go.Tv Go.Proofs
def Eo(wh:Int)(sets:fI):Nat→Option (Int→Toks→TR)
 | 0=>none
 | d+1=>some (gZ wh sets d)
theorem sD(wh:Int)(sets:fI):∀d,gZ wh sets d=oT (Eo wh sets d) wh sets
 | 0=>rfl
 | _+1=>rfl
def Ex.lv:Ex→Nat
 | .star a=>a.lv
 | .plus a=>a.lv
 | .opt a=>a.lv
 | .alt a b=>a.lv+b.lv
 | .seq a b=>a.lv+b.lv
 | _=>1
theorem Ex.lv_le:∀e:Ex,e.lv≤2 ^ e.D
 | .star a=>by have:=a.lv_le;simp only[Ex.lv,Ex.D,Nat.pow_succ];omega
 | .plus a=>by have:=a.lv_le;simp only[Ex.lv,Ex.D,Nat.pow_succ];omega
 | .opt a=>by have:=a.lv_le;simp only[Ex.lv,Ex.D,Nat.pow_succ];omega
 | .alt a b=>by
  have h1:=a.lv_le;have h2:=b.lv_le
  have h3:=Nat.pow_le_pow_right (show 0<2 by decide) (Nat.le_max_left a.D b.D);have h4:=Nat.pow_le_pow_right (show 0<2 by decide) (Nat.le_max_right a.D b.D)
  simp only[Ex.lv,Ex.D,Nat.pow_succ];omega
 | .seq a b=>by
  have h1:=a.lv_le;have h2:=b.lv_le
  have h3:=Nat.pow_le_pow_right (show 0<2 by decide) (Nat.le_max_left a.D b.D);have h4:=Nat.pow_le_pow_right (show 0<2 by decide) (Nat.le_max_right a.D b.D)
  simp only[Ex.lv,Ex.D,Nat.pow_succ];omega
 | .set _ _=>by simp[Ex.lv,Ex.D]
 | .any=>by simp[Ex.lv,Ex.D]
 | .nm _=>by simp[Ex.lv,Ex.D]
def nmV(sets:fI)(w:List UInt8):Int:=(look sets w).getD 0
def aBW(sets:fI)(ws:List (List UInt8))(b:Int):Int:=ws.foldl (fun x w=>aG .or .u32 x (nmV sets w)) b
def eT(n:Nat)(wh:Int)(sets:fI):Ex→List Tree
 | .nm k=>[.node 1 (nmV sets [qR n k]) []]
 | .any=>[.node 1 wh []]
 | .set neg b=>[.node 1 (if neg then aG .andNot .u32 wh (aBW sets (dT n b n) 0)else aBW sets (dT n b n) 0) []]
 | .star a=>[.node 4 0 [iK (eT n wh sets a)]]
 | .plus a=>[.node 5 0 [iK (eT n wh sets a)]]
 | .opt a=>[.node 6 0 [iK (eT n wh sets a)]]
 | .alt a b=>[.node 3 0 [iK (eT n wh sets a),iK (eT n wh sets b)]]
 | .seq a b=>eT n wh sets a++eT n wh sets b
theorem Kd.wd{ts:Toks}{x ks}(h:Kd ts (.w x::ks)):∃n r,ts = .wd x n r∧Kd r ks:=by
 cases ts with
 | bad n=>exact h.elim
 | eof n=>exact h.elim
 | wd w n r=>obtain⟨h1,h2⟩:=h;subst h1;exact⟨n,r,rfl,h2⟩
 | sg c n r=>exact h.elim
theorem Kd.sg{ts:Toks}{c ks}(h:Kd ts (.s c::ks)):∃n r,ts = .sg c n r∧Kd r ks:=by
 cases ts with
 | bad n=>exact h.elim
 | eof n=>exact h.elim
 | wd w n r=>exact h.elim
 | sg d n r=>obtain⟨h1,h2⟩:=h;subst h1;exact⟨n,r,rfl,h2⟩
theorem Kd.nil{ts:Toks}(h:Kd ts []):∃n,ts = .eof n:=by
 cases ts with
 | bad n=>exact h.elim
 | eof n=>exact⟨n,rfl⟩
 | wd w n r=>exact h.elim
 | sg d n r=>exact h.elim
theorem pW{c:Nat}{sets:fI}:∀(ws:List (List UInt8)) {ts:Toks} {b:Int} {ks},Kd ts (ws.map .w ++ .s c::ks)→(∀w∈ws,∃x,look sets w=some x)→∃r,kX c sets ts b = .inl (aBW sets ws b,r)∧Kd r ks
 | [],ts,b,ks,h,_=>by
  obtain⟨n,r,rfl,h2⟩:=Kd.sg h
  exact⟨r,by simp only[kX,if_true];rfl,h2⟩
 | w::ws,ts,b,ks,h,hk=>by
  obtain⟨n,r,rfl,h2⟩:=Kd.wd (show Kd ts (.w w::(ws.map .w ++ .s c::ks))from h)
  obtain⟨x,hx⟩:=hk w (by simp)
  obtain⟨r',h3,h4⟩:=pW ws (b:=aG .or .u32 b x) h2 (fun y hy=>hk y (by simp[hy]))
  refine⟨r',?_,h4⟩
  simp only[kX,hx,h3,aBW,List.foldl_cons,nmV,Option.getD_some]
def NPo:List K→Prop
 | .s c::_=>c≠42∧c≠43∧c≠63
 | _=>True
section
variable{n:Nat}{wh:Int}{sets:fI}
theorem pL{E:Option (Int→Toks→TR)}{pl:Int}{ts r:Toks}{x:Tree}{p:Int}{ks}(h:iG E wh sets pl ts = .inl (x,r,p))(hr:Kd r ks)(hn:NPo ks):j5 E wh sets pl ts = .inl (x,r,p):=by
 simp only[j5,h]
 match ks,hr,hn with
 | [],hr,_=>obtain⟨n,rfl⟩:=Kd.nil hr;rfl
 | .w y::ks,hr,_=>obtain⟨n,r,rfl,_⟩:=Kd.wd hr;rfl
 | .s c::ks,hr,⟨h1,h2,h3⟩ =>
  obtain⟨n,r,rfl,_⟩:=Kd.sg hr
  simp only[]
  rw[if_neg h1,if_neg h2,if_neg h3]
theorem aCo{E:Option (Int→Toks→TR)}{f:Nat}{pl:Int}{ts r:Toks}{x:Tree}{p:Int}{acc}(h:j5 E wh sets pl ts = .inl (x,r,p))(hth:B0 ts=true):qX E wh sets (f+1) ts pl acc=qX E wh sets f r p (acc++[x]):=by
 have hh:∃y,iQ ts = .inl y:=by
  cases ts with
  | bad n=>cases hth
  | eof n=>cases hth
  | wd w n r=>exact⟨_,rfl⟩
  | sg c n r=>exact⟨_,rfl⟩
 obtain⟨y,hy⟩:=hh
 simp only[qX,hy,hth,if_true,h]
theorem U2{E:Option (Int→Toks→TR)}{f:Nat}{pl:Int}{ts:Toks}{acc c ks}(h:Kd ts (.s c::ks))(hc:c≠40∧c≠91∧c≠46):qX E wh sets (f+1) ts pl acc = .inl (acc,ts,pl):=by
 obtain⟨m,r,rfl,_⟩:=Kd.sg h
 have hth:B0 (.sg c m r)=false:=by
  simp only[B0,Bool.or_eq_false_iff,beq_eq_false_iff_ne]
  exact⟨⟨hc.1,hc.2.1⟩,hc.2.2⟩
 simp only[qX,iQ,hth,Bool.false_eq_true,if_false]
def N6(n:Nat)(wh:Int)(sets:fI)(e:Ex)(d:Nat):Prop:=∀(f:Nat) (ts:Toks) (pl:Int) (acc:List Tree) (ks:List K),Kd ts (xJ n e++ks)→NPo ks→ts.size<f→0≤pl→pl+e.lv≤200 →
 ∃r f',qX (Eo wh sets d) wh sets f ts pl acc=qX (Eo wh sets d) wh sets f' r (pl+e.lv) (acc++eT n wh sets e)∧Kd r ks∧r.size<f'∧r.size≤ts.size
theorem mG:∀d,tA (Eo wh sets d)
 | 0=>uN
 | _+1=>D1
theorem H5{e:Ex}{d:Nat}(h:N6 n wh sets e d){ts:Toks}{pl:Int}{c ks}(hk:Kd ts (xJ n e ++ .s c::ks))(hc:c≠40∧c≠91∧c≠46)(hp:c≠42∧c≠43∧c≠63)(h0:0≤pl)(h1:pl+e.lv≤200):
  ∃r,z3 (Eo wh sets d) wh sets pl ts = .inl (iK (eT n wh sets e),r,pl+e.lv)∧Kd r (.s c::ks)∧r.size≤ts.size:=by
 obtain⟨r,f',h2,h3,h4,h5⟩:=h (ts.size+1) ts pl [] (.s c::ks) hk hp (by omega) h0 h1
 match f',h4 with
 | f'+1,_ =>
  rw[U2 h3 hc]at h2
  exact⟨r,by simp only[z3,h2,List.nil_append],h3,h5⟩
theorem qL{e:Ex}{d:Nat}(h:N6 n wh sets e d){ts:Toks}{pl:Int}{c ks}(hk:Kd ts (xJ n e ++ .s c::ks))(hc:c≠40∧c≠91∧c≠46)(hp:c≠42∧c≠43∧c≠63)(h124:c≠124)(h0:0≤pl)(h1:pl+e.lv≤200):
  ∃r,gZ wh sets d pl ts = .inl (iK (eT n wh sets e),r,pl+e.lv)∧Kd r (.s c::ks):=by
 obtain⟨r,h2,h3,h4⟩:=H5 h hk hc hp h0 h1
 refine⟨r,?_,h3⟩
 obtain⟨m,r',rfl,h5⟩:=Kd.sg h3
 rw[sD]
 simp only[oT,h2,B8,dX,if_neg h124,aDt]
theorem aFW{a b:Ex}{d:Nat}(ha:N6 n wh sets a d)(hb:N6 n wh sets b d){ts:Toks}{pl:Int}{ks}(hk:Kd ts (xJ n a ++ .s 124::(xJ n b ++ .s 41::ks)))(h0:0≤pl)(h1:pl+(a.lv+b.lv:Nat)≤200):
  ∃r,gZ wh sets d pl ts = .inl (.node 3 0 [iK (eT n wh sets a),iK (eT n wh sets b)],r,pl+(a.lv+b.lv:Nat))∧Kd r (.s 41::ks):=by
 obtain⟨r,h2,h3,h4⟩:=H5 ha hk (by decide) (by decide) h0 (by omega)
 obtain⟨m,r',rfl,h5⟩:=Kd.sg h3
 obtain⟨r2,h6,h7,h8⟩:=H5 hb h5 (by decide) (by decide) (show 0≤pl+a.lv by omega) (by omega)
 obtain⟨m2,r3,rfl,h9⟩:=Kd.sg h7
 refine⟨_,?_,h7⟩
 rw[sD]
 have e:pl+(a.lv:Int)+(b.lv:Int)=pl+((a.lv+b.lv:Nat):Int):=by omega
 rw[←e]
 have hz:(Toks.sg 124 m r').size+1=(r'.size+1)+1:=rfl
 simp only[oT,h2,hz]
 have s1:dX 124 (.sg 124 m r') = .inl (true,r'):=rfl
 have s2:dX 124 (.sg 41 m2 r3) = .inl (false,.sg 41 m2 r3):=rfl
 simp only[B8,s1,h6]
 cases hzz:r'.size with
 | zero=>simp only[Toks.size]at h8;omega
 | succ k=>simp only[B8,s2];rfl
theorem tE{x:Tree}{d:Nat}{ts:Toks}{pl p:Int}{ks}(hk:∃m r0,ts = .sg 40 m r0∧∃r,gZ wh sets d pl r0 = .inl (x,r,p)∧Kd r (.s 41::ks)):∃r,iG (Eo wh sets (d+1)) wh sets pl ts = .inl (x,r,p)∧Kd r ks:=by
 obtain⟨m,r0,rfl,r,h1,h2⟩:=hk
 obtain⟨m2,r2,rfl,h3⟩:=Kd.sg h2
 refine⟨r2,?_,h3⟩
 simp only[iG,if_true,Eo,h1,mV]
def Ex.br:Ex→Nat
 | .star a=>a.br+1
 | .plus a=>a.br+1
 | .opt a=>a.br+1
 | .alt a b=>max a.br b.br+1
 | .seq a b=>max a.br b.br
 | _=>0
theorem mO{E:Option (Int→Toks→TR)}{f:Nat}{ts r:Toks}{pl p:Int}{acc x ks}(hf:ts.size<f)(hE:tA E)(hth:B0 ts=true)(h:j5 E wh sets pl ts = .inl (x,r,p))(hr:Kd r ks):
  ∃r f',qX E wh sets f ts pl acc=qX E wh sets f' r p (acc++[x])∧Kd r ks∧r.size<f'∧r.size≤ts.size:=by
 match f,hf with
 | f+1,hf =>
  have:=pV hE h
  exact⟨r,f,aCo h hth,hr,by omega,by omega⟩
theorem yV{E:Option (Int→Toks→TR)}{pl p:Int}{ts r:Toks}{x:Tree}{c ks}(h:iG E wh sets pl ts = .inl (x,r,p))(hr:Kd r (.s c::ks)){op:Int}(hc:(c=42∧op=4)∨(c=43∧op=5)∨(c=63∧op=6)):∃r',j5 E wh sets pl ts = .inl (.node op 0 [x],r',p)∧Kd r' ks:=by
 obtain⟨m,r',rfl,h2⟩:=Kd.sg hr
 refine⟨r',?_,h2⟩
 simp only[j5,h]
 rcases hc with⟨rfl,rfl⟩ | ⟨rfl,rfl⟩ | ⟨rfl,rfl⟩ <;> rfl
theorem aCK(n:Nat):∀(e:Ex) (ks:List K),NPo (xJ n e++ks)
 | .nm _,_=>trivial
 | .any,_=>by show(46:Nat)≠42∧46≠43∧46≠63;decide
 | .set true _,_=>by show(91:Nat)≠42∧91≠43∧91≠63;decide
 | .set false _,_=>by show(91:Nat)≠42∧91≠43∧91≠63;decide
 | .star _,_=>by show(40:Nat)≠42∧40≠43∧40≠63;decide
 | .plus _,_=>by show(40:Nat)≠42∧40≠43∧40≠63;decide
 | .opt _,_=>by show(40:Nat)≠42∧40≠43∧40≠63;decide
 | .alt _ _,_=>by show(40:Nat)≠42∧40≠43∧40≠63;decide
 | .seq a b,ks=>by simp only[xJ,List.append_assoc];exact aCK n a _
theorem sF{n b:Nat}:∀ {k:Nat} {w:List UInt8},w∈dT n b k→∃i,w=[qR n i]
 | 0,_,h=>by cases h
 | k+1,w,h=>by
  simp only[dT,List.mem_append]at h
  rcases h with h | h
  ·exact sF h
  ·split at h
   ·cases List.mem_singleton.mp h;exact⟨k,rfl⟩
   ·cases h
theorem p9(hk:∀k,∃x,look sets [qR n k]=some x):∀(e:Ex) (d:Nat),e.br≤d→N6 n wh sets e d
 | .nm k,d,_=>fun f ts pl acc ks h hn hf h0 h1=>by
  obtain⟨m,r,rfl,h2⟩:=Kd.wd (show Kd ts (.w [qR n k]::ks)from h)
  obtain⟨x,hx⟩:=hk k
  simp only[Ex.lv]at h1 ⊢
  refine mO hf (mG d) rfl (pL ?_ h2 hn) h2
  simp only[iG]
  rw[if_neg (by omega),hx]
  simp only[nmV,hx,Option.getD_some];rfl
 | .any,d,_=>fun f ts pl acc ks h hn hf h0 h1=>by
  obtain⟨m,r,rfl,h2⟩:=Kd.sg (show Kd ts (.s 46::ks)from h)
  simp only[Ex.lv]at h1 ⊢
  refine mO hf (mG d) rfl (pL ?_ h2 hn) h2
  simp only[iG]
  rw[if_neg (by decide),if_neg (by omega)]
  rfl
 | .set neg b,d,_=>fun f ts pl acc ks h hn hf h0 h1=>by
  have hw:∀w∈dT n b n,∃x,look sets w=some x:=fun w hw=>by
   obtain⟨i,rfl⟩:=sF hw
   exact hk i
  simp only[Ex.lv]at h1 ⊢
  cases neg with
  | true =>
   obtain⟨m,r,rfl,h2⟩:=Kd.sg (show Kd ts (.s 91 :: .s 94::((dT n b n).map .w++[.s 93]++ks))from by simpa [xJ]using h)
   obtain⟨m2,r2,rfl,h3⟩:=Kd.sg h2
   obtain⟨r3,h4,h5⟩:=pW (b:=0) (dT n b n) (by rw[List.append_assoc]at h3;exact h3) hw
   refine mO hf (mG d) rfl (pL ?_ h5 hn) h5
   simp only[iG]
   rw[if_neg (by decide),if_neg (by omega),if_neg (by decide)]
   simp only[dX,if_true,h4]
   rfl
  | false =>
   obtain⟨m,r,rfl,h2⟩:=Kd.sg (show Kd ts (.s 91::((dT n b n).map .w++[.s 93]++ks))from by simpa [xJ]using h)
   rw[List.append_assoc]at h2
   obtain⟨r3,h4,h5⟩:=pW (b:=0) (dT n b n) h2 hw
   have hs:dX 94 r = .inl (false,r):=by
    match hws:dT n b n with
    | [] =>
     rw[hws]at h2
     obtain⟨m2,r2,rfl,_⟩:=Kd.sg h2
     rfl
    | w::ws =>
     rw[hws]at h2
     obtain⟨m2,r2,rfl,_⟩:=Kd.wd h2
     rfl
   refine mO hf (mG d) rfl (pL ?_ h5 hn) h5
   simp only[iG]
   rw[if_neg (by decide),if_neg (by omega),if_neg (by decide),hs]
   simp only[h4]
   rfl
 | .star a,0,hb=>by simp only[Ex.br]at hb;omega
 | .plus a,0,hb=>by simp only[Ex.br]at hb;omega
 | .opt a,0,hb=>by simp only[Ex.br]at hb;omega
 | .alt a b,0,hb=>by simp only[Ex.br]at hb;omega
 | .star a,d+1,hb=>fun f ts pl acc ks h hn hf h0 h1=>by
  simp only[Ex.br]at hb
  simp only[Ex.lv]at h1 ⊢
  simp only[xJ,List.cons_append,List.append_assoc,List.nil_append]at h
  obtain⟨m,r,rfl,h2⟩:=Kd.sg h
  obtain⟨r1,h3,h4⟩:=tE (ks:= .s 42::ks) ⟨m,r,rfl,qL (p9 hk a d (by omega)) h2 (by decide) (by decide) (by decide) h0 h1⟩
  obtain⟨r2,h5,h6⟩:=yV h3 h4 (.inl ⟨rfl,rfl⟩)
  exact mO hf (mG _) rfl h5 h6
 | .plus a,d+1,hb=>fun f ts pl acc ks h hn hf h0 h1=>by
  simp only[Ex.br]at hb
  simp only[Ex.lv]at h1 ⊢
  simp only[xJ,List.cons_append,List.append_assoc,List.nil_append]at h
  obtain⟨m,r,rfl,h2⟩:=Kd.sg h
  obtain⟨r1,h3,h4⟩:=tE (ks:= .s 43::ks) ⟨m,r,rfl,qL (p9 hk a d (by omega)) h2 (by decide) (by decide) (by decide) h0 h1⟩
  obtain⟨r2,h5,h6⟩:=yV h3 h4 (.inr (.inl ⟨rfl,rfl⟩))
  exact mO hf (mG _) rfl h5 h6
 | .opt a,d+1,hb=>fun f ts pl acc ks h hn hf h0 h1=>by
  simp only[Ex.br]at hb
  simp only[Ex.lv]at h1 ⊢
  simp only[xJ,List.cons_append,List.append_assoc,List.nil_append]at h
  obtain⟨m,r,rfl,h2⟩:=Kd.sg h
  obtain⟨r1,h3,h4⟩:=tE (ks:= .s 63::ks) ⟨m,r,rfl,qL (p9 hk a d (by omega)) h2 (by decide) (by decide) (by decide) h0 h1⟩
  obtain⟨r2,h5,h6⟩:=yV h3 h4 (.inr (.inr ⟨rfl,rfl⟩))
  exact mO hf (mG _) rfl h5 h6
 | .alt a b,d+1,hb=>fun f ts pl acc ks h hn hf h0 h1=>by
  simp only[Ex.br]at hb
  simp only[Ex.lv]at h1 ⊢
  simp only[xJ,List.cons_append,List.append_assoc,List.nil_append]at h
  obtain⟨m,r,rfl,h2⟩:=Kd.sg h
  obtain⟨r1,h3,h4⟩:=tE (ks:=ks) ⟨m,r,rfl,aFW (p9 hk a d (by omega)) (p9 hk b d (by omega)) h2 h0 h1⟩
  exact mO hf (mG _) rfl (pL h3 h4 hn) h4
 | .seq a b,d,hb=>fun f ts pl acc ks h hn hf h0 h1=>by
  simp only[Ex.br]at hb
  simp only[Ex.lv]at h1 ⊢
  simp only[xJ,List.append_assoc]at h
  obtain⟨r,f1,h2,h3,h4,h5⟩:=p9 hk a d (by omega) f ts pl acc _ h (aCK n b ks) hf h0 (by omega)
  obtain⟨r2,f2,h6,h7,h8,h9⟩:=p9 hk b d (by omega) f1 r (pl+a.lv) (acc++eT n wh sets a) ks h3 hn h4 (by omega) (by omega)
  refine⟨r2,f2,?_,h7,h8,by omega⟩
  rw[h2,h6,show pl+((a.lv+b.lv:Nat):Int)=pl+(a.lv:Int)+(b.lv:Int) by omega]
  simp only[eT,List.append_assoc]
def qU(n:Nat)(wh:Int)(sets:fI):Option Ex→Tree
 | none=> .node 0 0 []
 | some e=>iK (eT n wh sets e)
def lvO:Option Ex→Nat
 | none=>0
 | some e=>e.lv
def brO:Option Ex→Nat
 | none=>0
 | some e=>e.br
theorem zU(hk:∀k,∃x,look sets [qR n k]=some x)(e:Option Ex){d:Nat}(hd:brO e≤d){ts:Toks}{pl:Int}{c ks}(h:Kd ts (aBs n e ++ .s c::ks))(hc:c≠40∧c≠91∧c≠46)(hp:c≠42∧c≠43∧c≠63)(h124:c≠124)(h0:0≤pl)(h1:pl+(lvO e:Nat)≤200):
  ∃r,gZ wh sets d pl ts = .inl (qU n wh sets e,r,pl+(lvO e:Nat))∧Kd r (.s c::ks):=by
 cases e with
 | none =>
  refine⟨ts,?_,h⟩
  have hrow:=U2 (E:=Eo wh sets d) (wh:=wh) (sets:=sets) (f:=ts.size) (pl:=pl) (acc:=[]) (show Kd ts (.s c::ks)from h) hc
  obtain⟨m,r',rfl,h5⟩:=Kd.sg (show Kd ts (.s c::ks)from h)
  rw[sD]
  simp only[oT,z3,hrow,B8,dX,if_neg h124,aDt,qU,iK,lvO]
  simp
 | some e=>exact qL (p9 hk e d hd) h hc hp h124 h0 h1
end
end Go.Proofs.YtacpjjgochokcaaDoor.T
