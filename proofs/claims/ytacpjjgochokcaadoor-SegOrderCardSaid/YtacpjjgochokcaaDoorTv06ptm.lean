/- A plan's text as pieces. -/
import Derived.Test.YtacpjjgochokcaaDoorTv06pdm
import Derived.Test.YtacpjjgochokcaaDoorTv06pqm
import Derived.Test.YtacpjjgochokcaaDoorTv06pf
namespace Go.Proofs.YtacpjjgochokcaaDoor.T
open Go Go.Tv Go.Proofs
inductive K where
 | w (x:List UInt8)
 | s (c:Nat)
def Kd:Toks→List K→Prop
 | .eof _,[]=>True
 | .wd w _ r,.w x::l=>w=x∧Kd r l
 | .sg c _ r,.s d::l=>c=d∧Kd r l
 | _,_=>False
def Lx(l:List UInt8)(ks:List K):Prop:=∀n,Kd (tk (some 0) l n) ks
def NL(l:List UInt8):Prop:=∀c r,l=c::r→cW c.toNat=false
theorem aIc:Lx [] []:=fun _=>trivial
theorem aIX{c:UInt8}{r ks}(h35:c.toNat≠35)(hb:rS c.toNat=true)(h:Lx r ks):Lx (c::r) ks:=fun n=>by
 simp only[tk];rw[if_neg h35,if_pos hb];exact h _
theorem aIV{c:UInt8}{r ks}(h35:c.toNat≠35)(hb:rS c.toNat=false)(hl:cW c.toNat=false)(hs:qE c.toNat=true)(h:Lx r ks):Lx (c::r) (.s c.toNat::ks):=fun n=>by
 simp only[tk];rw[if_neg h35,if_neg (by rw[hb];decide),if_neg (by rw[hl];decide),if_pos hs];exact⟨rfl,h _⟩
theorem aDz{w r:List UInt8}(hw:∀c∈w,cW c.toNat=true)(hr:NL r):(w++r).takeWhile (fun x=>cW x.toNat)=w:=by
 induction w with
 | nil =>
  cases r with
  | nil=>rfl
  | cons c r=>simp only[List.nil_append,List.takeWhile_cons,hr c r rfl];rfl
 | cons c w ih =>
  rw[List.cons_append,List.takeWhile_cons,if_pos (hw c (by simp)),ih (fun x hx=>hw x (by simp[hx]))]
theorem aDk{c:Nat}(h:cW c=true):c≠35∧rS c=false:=by
 refine⟨fun hh=>(by subst hh;cases h),?_⟩
 cases hb:rS c with
 | false=>rfl
 | true =>
  simp only[rS,Bool.or_eq_true,beq_iff_eq]at hb
  rcases hb with((rfl | rfl) | rfl) | rfl <;> cases h
theorem aJt{w r:List UInt8}{ks}(h0:w≠[])(hw:∀c∈w,cW c.toNat=true)(hr:NL r)(h:Lx r ks):Lx (w++r) (.w w::ks):=fun n=>by
 match w,h0 with
 | c::w,_ =>
  have hc:=hw c (by simp)
  have ht:=aDz (w:=w) (r:=r) (fun x hx=>hw x (by simp[hx])) hr
  rw[List.cons_append]
  simp only[tk]
  rw[if_neg (aDk hc).1,if_neg (by rw[(aDk hc).2];decide),if_pos hc,ht,aAk _ _ _ (by simp)]
  refine⟨rfl,?_⟩
  rw[List.drop_left]
  exact h _
def Px(x:List UInt8)(ks:List K):Prop:=∀r ls,Lx r ls→Lx (x++r) (ks++ls)
def Qx(x:List UInt8)(ks:List K):Prop:=∀r ls,NL r→Lx r ls→Lx (x++r) (ks++ls)
theorem Px.app{x y ks ls}(h1:Px x ks)(h2:Px y ls):Px (x++y) (ks++ls):=fun r ms h=>by
 rw[List.append_assoc,List.append_assoc];exact h1 _ _ (h2 _ _ h)
theorem Px.q{x y ks ls}(h1:Px x ks)(h2:Qx y ls):Qx (x++y) (ks++ls):=fun r ms hn h=>by
 rw[List.append_assoc,List.append_assoc];exact h1 _ _ (h2 _ _ hn h)
theorem Qx.app{x y ks ls}{c:UInt8}{y':List UInt8}(h1:Qx x ks)(hy:y=c::y')(hc:cW c.toNat=false)(h2:Px y ls):Px (x++y) (ks++ls):=fun r ms h=>by
 rw[List.append_assoc,List.append_assoc]
 exact h1 _ _ (fun d q hd=>by rw[hy,List.cons_append]at hd;cases hd;exact hc) (h2 _ _ h)
theorem Qx.qapp{x y ks ls}{c:UInt8}{y':List UInt8}(h1:Qx x ks)(hy:y=c::y')(hc:cW c.toNat=false)(h2:Qx y ls):Qx (x++y) (ks++ls):=fun r ms hn h=>by
 rw[List.append_assoc,List.append_assoc]
 exact h1 _ _ (fun d q hd=>by rw[hy,List.cons_append]at hd;cases hd;exact hc) (h2 _ _ hn h)
theorem Px.toQ{x ks}(h:Px x ks):Qx x ks:=fun r ls _=>h r ls
theorem aFm:Px [] []:=fun _ _ h=>h
theorem aHA(c:UInt8)(h35:c.toNat≠35)(hb:rS c.toNat=true):Px [c] []:=fun _ _ h=>aIX h35 hb h
theorem qK(c:UInt8)(h35:c.toNat≠35)(hb:rS c.toNat=false)(hl:cW c.toNat=false)(hs:qE c.toNat=true):Px [c] [.s c.toNat]:=fun _ _ h=>aIV h35 hb hl hs h
theorem aCQ{w:List UInt8}(h0:w≠[])(hw:∀c∈w,cW c.toNat=true):Qx w [.w w]:=fun _ _ hr h=>aJt h0 hw hr h
theorem qJ:Px [32] []∧Px [10] []∧Px [40] [.s 40]∧Px [41] [.s 41]∧Px [91] [.s 91]∧Px [93] [.s 93]∧Px [94] [.s 94]∧Px [124] [.s 124]∧Px [42] [.s 42]∧Px [43] [.s 43]∧Px [63] [.s 63]∧Px [46] [.s 46]∧Px [59] [.s 59]∧Px [47] [.s 47]∧Px [61] [.s 61] :=
 ⟨aHA 32 (by decide) (by decide),aHA 10 (by decide) (by decide),qK 40 (by decide) (by decide) (by decide) (by decide),qK 41 (by decide) (by decide) (by decide) (by decide),qK 91 (by decide) (by decide) (by decide) (by decide),qK 93 (by decide) (by decide) (by decide) (by decide),qK 94 (by decide) (by decide) (by decide) (by decide),qK 124 (by decide) (by decide) (by decide) (by decide),qK 42 (by decide) (by decide) (by decide) (by decide),qK 43 (by decide) (by decide) (by decide) (by decide),qK 63 (by decide) (by decide) (by decide) (by decide),qK 46 (by decide) (by decide) (by decide) (by decide),qK 59 (by decide) (by decide) (by decide) (by decide),qK 47 (by decide) (by decide) (by decide) (by decide),qK 61 (by decide) (by decide) (by decide) (by decide)⟩
theorem aD1{n i:Nat}(h1:1≤n)(h6:n≤6):(tR n i).toNat=65+i % n:=by
 have:i % n<n:=Nat.mod_lt _ (by omega)
 unfold tR
 simp
 omega
theorem aGZ{n i:Nat}(h1:1≤n)(h6:n≤6):cW (tR n i).toNat=true:=by
 have h:i % n<n:=Nat.mod_lt _ (by omega)
 rw[aD1 h1 h6]
 have key:∀m,m<6→cW (65+m)=true:=by decide
 exact key _ (by omega)
def nmK(n i:Nat):K:= .w [tR n i]
theorem aCX{n i:Nat}(h1:1≤n)(h6:n≤6):Qx [tR n i] [nmK n i]:=aCQ (by simp) (fun c hc=>by cases List.mem_singleton.mp hc;exact aGZ h1 h6)
def eS(n b:Nat):Nat→List (List UInt8)
 | 0=>[]
 | k+1=>eS n b k++(if b / 2 ^ k % 2=1 then[[tR n k]]else[])
theorem sF{n:Nat}(h1:1≤n)(h6:n≤6)(b:Nat):∀k,Qx (dC n b k) ((eS n b k).map .w)∧(dC n b k=[]∨∃y,dC n b k=32::y)
 | 0=>⟨aFm.toQ,Or.inl rfl⟩
 | k+1=>by
  obtain⟨ih1,ih2⟩:=sF h1 h6 b k
  simp only[dC,eS]
  split
  ·refine⟨?_,?_⟩
   ·rw[List.map_append]
    exact ih1.qapp (c:=32) (y':=[tR n k]) rfl (by decide) (qJ.1.q (aCX h1 h6))
   ·rcases ih2 with h | ⟨y,h⟩
    ·exact Or.inr ⟨[tR n k],by rw[h];rfl⟩
    ·exact Or.inr ⟨y++[32,tR n k],by rw[h];rfl⟩
  ·simpa using⟨ih1,ih2⟩
theorem H3{n:Nat}(h1:1≤n)(h6:n≤6)(b:Nat){y ls}{c:UInt8}{y':List UInt8}(hy:y=c::y')(hc:cW c.toNat=false)(h2:Px y ls):Px (dC n b n++y) ((eS n b n).map .w++ls) :=
 (sF h1 h6 b n).1.app hy hc h2
def wK(n:Nat):Ex→List K
 | .nm k=>[nmK n k]
 | .any=>[.s 46]
 | .set neg b=>(if neg then[.s 91,.s 94]else[.s 91])++(eS n b n).map .w++[.s 93]
 | .star a=> .s 40::(wK n a++[.s 41,.s 42])
 | .plus a=> .s 40::(wK n a++[.s 41,.s 43])
 | .opt a=> .s 40::(wK n a++[.s 41,.s 63])
 | .alt a b=> .s 40::(wK n a ++ .s 124::(wK n b++[.s 41]))
 | .seq a b=>wK n a++wK n b
theorem zO{n:Nat}(h1:1≤n)(h6:n≤6):∀e,Qx (x9 n e) (wK n e)
 | .nm k=>aCX h1 h6
 | .any=>by obtain⟨_,_,_,_,_,_,_,_,_,_,_,h,_⟩:=qJ;exact h.toQ
 | .set neg b=>by
  obtain⟨_,_,_,_,c91,c93,c94,_⟩:=qJ
  have hb:=H3 h1 h6 b (y:=[93]) rfl (by decide) c93
  simp only[x9,wK]
  rw[List.append_assoc,List.append_assoc]
  cases neg with
  | true=>exact((c91.app c94).app hb).toQ
  | false=>exact(c91.app hb).toQ
 | .star a=>by
  obtain⟨_,_,c40,c41,_,_,_,_,c42,_⟩:=qJ
  have:=c40.app ((zO h1 h6 a).app (y:=[41,42]) rfl (by decide) (c41.app c42))
  simp only[x9,wK];rw[List.append_assoc]
  exact this.toQ
 | .plus a=>by
  obtain⟨_,_,c40,c41,_,_,_,_,_,c43,_⟩:=qJ
  have:=c40.app ((zO h1 h6 a).app (y:=[41,43]) rfl (by decide) (c41.app c43))
  simp only[x9,wK];rw[List.append_assoc]
  exact this.toQ
 | .opt a=>by
  obtain⟨_,_,c40,c41,_,_,_,_,_,_,c63,_⟩:=qJ
  have:=c40.app ((zO h1 h6 a).app (y:=[41,63]) rfl (by decide) (c41.app c63))
  simp only[x9,wK];rw[List.append_assoc]
  exact this.toQ
 | .alt a b=>by
  obtain⟨_,_,c40,c41,_,_,_,c124,_⟩:=qJ
  have hb:=(zO h1 h6 b).app (y:=[41]) rfl (by decide) c41
  have:=c40.app ((zO h1 h6 a).app (y:=[124]++(x9 n b++[41])) rfl (by decide) (c124.app hb))
  simp only[x9,wK];simp only[List.append_assoc]
  exact this.toQ
 | .seq a b=>by
  simp only[x9,wK]
  rw[List.append_assoc]
  exact(zO h1 h6 a).qapp (y:=[32]++x9 n b) rfl (by decide) (qJ.1.q (zO h1 h6 b))
def aHp(n:Nat):Option Ex→List K
 | none=>[]
 | some e=>wK n e
theorem aFF{n:Nat}(h1:1≤n)(h6:n≤6):∀e,Qx (aCr n e) (aHp n e)
 | none=>aFm.toQ
 | some e=>zO h1 h6 e
def S7(n:Nat):List K:= .w [99,108,97,115,115]::((eS n 255 n).map .w++[.s 59])
def aBu(n:Nat)(j a:Int):List K:=if j=0 then[]else .w [106,111,105,110]::((eS n j.toNat n).map .w ++ .s 47::((eS n a.toNat n).map .w++[.s 59]))
def trK(n:Nat)(tr:List Int):Nat→List K
 | 0=>[]
 | k+1=>trK n tr k++[.w [116,114,101,97,116],nmK n k,.s 61,nmK n (tr.getD k 0).toNat,.s 59]
def rX(d:Int):List UInt8:=([([107,101,101,112]:List UInt8),([109,97,121]:List UInt8),([109,117,115,116]:List UInt8)]:List (List UInt8)).getD (Int.tmod d 3).toNat []
def ruK(n:Nat)(l:List PR):Nat→List K
 | 0=>[]
 | k+1=>ruK n l k++(.w (rX (l.getD k qS).1)::(aHp n (wI (l.getD k qS).2.1) ++ .s 47::(aHp n (wI (l.getD k qS).2.2)++[.s 59])))
def aBk(c j a:Int)(tr:List Int)(l:List PR):List K:=S7 (bN c)++(aBu (bN c) j a++(trK (bN c) tr (min tr.length (bN c))++ruK (bN c) l (min l.length 10)))
theorem aDh{w:List UInt8}(h0:w≠[])(hw:∀c∈w,cW c.toNat=true):Px (w++[32]) [.w w]:=(aCQ h0 hw).app (y:=[32]) rfl (by decide) qJ.1
theorem Z9:Px [59,10] [.s 59]:=by
 obtain⟨_,c10,_,_,_,_,_,_,_,_,_,_,c59,_⟩:=qJ
 exact c59.app c10
theorem aC8{n:Nat}(h1:1≤n)(h6:n≤6):Px (S8 n) (S7 n):=by
 have hn:=H3 h1 h6 255 (y:=[59,10]) rfl (by decide) Z9
 have hne:∃y,dC n 255 n=32::y:=by
  rcases(sF h1 h6 255 n).2 with h | h
  ·exfalso
   match n,h1 with
   | n+1,_ =>
    simp only[dC]at h
    have hb:255 / 2 ^ n % 2=1:=by
     have key:∀m,m<6→255 / 2 ^ m % 2=1:=by decide
     exact key n (by omega)
    rw[if_pos hb]at h
    simp at h
  ·exact h
 obtain⟨y,hy⟩:=hne
 unfold S8 S7
 rw[List.append_assoc]
 exact(aCQ (w:=[99,108,97,115,115]) (by simp) (by decide)).app (c:=32) (y':=y++[59,10]) (by rw[hy];rfl) (by decide) hn
theorem aGO{n:Nat}(h1:1≤n)(h6:n≤6)(j a:Int):Px (pZ n j a) (S7 n++aBu n j a):=by
 unfold pZ aBu
 split
 ·rw[List.append_nil];exact aC8 h1 h6
 ·obtain⟨c32,_,_,_,_,_,_,_,_,_,_,_,_,c47,_⟩:=qJ
  have h2:=H3 h1 h6 a.toNat (y:=[59,10]) rfl (by decide) Z9
  have h3:=(sF h1 h6 j.toNat n).1.app (y:=[32,47]++(dC n a.toNat n++[59,10])) rfl (by decide) ((c32.app c47).app h2)
  have hy:∃c y',dC n j.toNat n++([32,47]++(dC n a.toNat n++[59,10]))=c::y'∧cW c.toNat=false:=by
   rcases(sF h1 h6 j.toNat n).2 with h | ⟨y,h⟩
   ·exact⟨32,47::(dC n a.toNat n++[59,10]),by rw[h];rfl,by decide⟩
   ·exact⟨32,_,by rw[h];rfl,by decide⟩
  obtain⟨c,y',hy1,hy2⟩:=hy
  have h4:=(aCQ (w:=[106,111,105,110]) (by simp) (by decide)).app hy1 hy2 h3
  have:=(aC8 h1 h6).app h4
  simp only[List.append_assoc]at this ⊢
  exact this
theorem aHE{n:Nat}(h1:1≤n)(h6:n≤6){b ks}(hb:Px b ks)(tr:List Int):∀k,Px (trT b n tr k) (ks++trK n tr k)
 | 0=>by rw[show trK n tr 0=[]from rfl,List.append_nil];exact hb
 | k+1=>by
  obtain⟨c32,_,_,_,_,_,_,_,_,_,_,_,_,_,c61⟩:=qJ
  have ih:=aHE h1 h6 hb tr k
  have w1:=aDh (w:=[116,114,101,97,116]) (by simp) (by decide)
  have w4:=(aCX (i:=(tr.getD k 0).toNat) h1 h6).app (y:=[59,10]) rfl (by decide) Z9
  have w3:=(c32.app (c61.app c32)).app w4
  have w2:=(aCX (i:=k) h1 h6).app (y:=[32,61,32]++([tR n (tr.getD k 0).toNat]++[59,10])) rfl (by decide) w3
  have:=ih.app (w1.app w2)
  simp only[trT,trK]
  simp only[List.append_assoc]at this ⊢
  exact this
theorem aE7{d:Int}(h:0≤d):u7 d=rX d++[32]∧rX d≠[]∧∀c∈rX d,cW c.toNat=true:=by
 obtain⟨m,rfl⟩:=Int.eq_ofNat_of_zero_le h
 have e:Int.tmod ((m:Nat):Int) (3:Int)=((m % 3:Nat):Int):=rfl
 unfold u7 rX
 rw[e,Int.toNat_natCast]
 have hm:m % 3<3:=Nat.mod_lt _ (by decide)
 generalize m % 3=k at hm
 match k,hm with
 | 0,_=>exact⟨rfl,by decide,by decide⟩
 | 1,_=>exact⟨rfl,by decide,by decide⟩
 | 2,_=>exact⟨rfl,by decide,by decide⟩
theorem aHY{n:Nat}(h1:1≤n)(h6:n≤6){b ks}(hb:Px b ks){l:List PR}(hl:∀x∈l,0≤x.1):∀k,k≤l.length→Px (ruT b n l k) (ks++ruK n l k)
 | 0,_=>by rw[show ruK n l 0=[]from rfl,List.append_nil];exact hb
 | k+1,hk=>by
  obtain⟨c32,_,_,_,_,_,_,_,_,_,_,_,_,c47,_⟩:=qJ
  have ih:=aHY h1 h6 hb hl k (by omega)
  obtain⟨d1,d2,d3⟩:=aE7 (hl _ (d9 (d:=qS) (show k<l.length by omega)))
  have w1:=aDh d2 d3
  have w4:=(aFF h1 h6 (wI (l.getD k qS).2.2)).app (y:=[59,10]) rfl (by decide) Z9
  have w3:=(c32.app (c47.app c32)).app w4
  have w2:=(aFF h1 h6 (wI (l.getD k qS).2.1)).app (y:=[32,47,32]++(aCr n (wI (l.getD k qS).2.2)++[59,10])) rfl (by decide) w3
  have:=ih.app (w1.app w2)
  simp only[ruT,ruK,d1]
  simp only[List.append_assoc]at this ⊢
  exact this
theorem aGW{c j a:Int}{tr:List Int}{l:List PR}(h:Pl c j a tr l):Px (B7 c j a tr l) (aBk c j a tr l):=by
 have h1:=tE c
 have h6:=tY c
 have:=aHY h1 h6 (aHE h1 h6 (aGO h1 h6 j a) tr (min tr.length (bN c))) (fun x hx=>(h.hl x hx).1.1) (min l.length 10) (Nat.min_le_left _ _)
 unfold B7 aBk
 simp only[List.append_assoc]at this
 exact this
theorem aFK{c j a:Int}{tr:List Int}{l:List PR}(h:Pl c j a tr l):Kd (T (B7 c j a tr l) 0) (aBk c j a tr l):=by
 have:=aGW h [] [] aIc 0
 rw[List.append_nil,List.append_nil]at this
 exact this
end Go.Proofs.YtacpjjgochokcaaDoor.T
namespace Go.Proofs.YtacpjjgochokcaaDoor.T
open Go Go.Tv Go.Proofs
def Eo(wh:Int)(sets:gJ):Nat→Option (Int→Toks→TR)
 | 0=>none
 | d+1=>some (gU wh sets d)
theorem vT(wh:Int)(sets:gJ):∀d,gU wh sets d=pA (Eo wh sets d) wh sets
 | 0=>rfl
 | _+1=>rfl
def Ex.lv:Ex→Nat
 | .star a=>a.lv
 | .plus a=>a.lv
 | .opt a=>a.lv
 | .alt a b=>a.lv+b.lv
 | .seq a b=>a.lv+b.lv
 | _=>1
theorem Ex.lv_le:∀e:Ex,e.lv≤2 ^ e.D
 | .star a=>by have:=a.lv_le;simp only[Ex.lv,Ex.D,Nat.pow_succ];omega
 | .plus a=>by have:=a.lv_le;simp only[Ex.lv,Ex.D,Nat.pow_succ];omega
 | .opt a=>by have:=a.lv_le;simp only[Ex.lv,Ex.D,Nat.pow_succ];omega
 | .alt a b=>by
  have h1:=a.lv_le;have h2:=b.lv_le
  have h3:=Nat.pow_le_pow_right (show 0<2 by decide) (Nat.le_max_left a.D b.D);have h4:=Nat.pow_le_pow_right (show 0<2 by decide) (Nat.le_max_right a.D b.D)
  simp only[Ex.lv,Ex.D,Nat.pow_succ];omega
 | .seq a b=>by
  have h1:=a.lv_le;have h2:=b.lv_le
  have h3:=Nat.pow_le_pow_right (show 0<2 by decide) (Nat.le_max_left a.D b.D);have h4:=Nat.pow_le_pow_right (show 0<2 by decide) (Nat.le_max_right a.D b.D)
  simp only[Ex.lv,Ex.D,Nat.pow_succ];omega
 | .set _ _=>by simp[Ex.lv,Ex.D]
 | .any=>by simp[Ex.lv,Ex.D]
 | .nm _=>by simp[Ex.lv,Ex.D]
def nmV(sets:gJ)(w:List UInt8):Int:=(look sets w).getD 0
def aDN(sets:gJ)(ws:List (List UInt8))(b:Int):Int:=ws.foldl (fun x w=>aJ .or .u32 x (nmV sets w)) b
def fW(n:Nat)(wh:Int)(sets:gJ):Ex→List Tree
 | .nm k=>[.node 1 (nmV sets [tR n k]) []]
 | .any=>[.node 1 wh []]
 | .set neg b=>[.node 1 (if neg then aJ .andNot .u32 wh (aDN sets (eS n b n) 0)else aDN sets (eS n b n) 0) []]
 | .star a=>[.node 4 0 [kQ (fW n wh sets a)]]
 | .plus a=>[.node 5 0 [kQ (fW n wh sets a)]]
 | .opt a=>[.node 6 0 [kQ (fW n wh sets a)]]
 | .alt a b=>[.node 3 0 [kQ (fW n wh sets a),kQ (fW n wh sets b)]]
 | .seq a b=>fW n wh sets a++fW n wh sets b
theorem Kd.wd{ts:Toks}{x ks}(h:Kd ts (.w x::ks)):∃n r,ts = .wd x n r∧Kd r ks:=by
 cases ts with
 | bad n=>exact h.elim
 | eof n=>exact h.elim
 | wd w n r=>obtain⟨h1,h2⟩:=h;subst h1;exact⟨n,r,rfl,h2⟩
 | sg c n r=>exact h.elim
theorem Kd.sg{ts:Toks}{c ks}(h:Kd ts (.s c::ks)):∃n r,ts = .sg c n r∧Kd r ks:=by
 cases ts with
 | bad n=>exact h.elim
 | eof n=>exact h.elim
 | wd w n r=>exact h.elim
 | sg d n r=>obtain⟨h1,h2⟩:=h;subst h1;exact⟨n,r,rfl,h2⟩
theorem Kd.nil{ts:Toks}(h:Kd ts []):∃n,ts = .eof n:=by
 cases ts with
 | bad n=>exact h.elim
 | eof n=>exact⟨n,rfl⟩
 | wd w n r=>exact h.elim
 | sg d n r=>exact h.elim
theorem tW{c:Nat}{sets:gJ}:∀(ws:List (List UInt8)) {ts:Toks} {b:Int} {ks},Kd ts (ws.map .w ++ .s c::ks)→(∀w∈ws,∃x,look sets w=some x)→∃r,kA c sets ts b = .inl (aDN sets ws b,r)∧Kd r ks
 | [],ts,b,ks,h,_=>by
  obtain⟨n,r,rfl,h2⟩:=Kd.sg h
  exact⟨r,by simp only[kA,if_true];rfl,h2⟩
 | w::ws,ts,b,ks,h,hk=>by
  obtain⟨n,r,rfl,h2⟩:=Kd.wd (show Kd ts (.w w::(ws.map .w ++ .s c::ks))from h)
  obtain⟨x,hx⟩:=hk w (by simp)
  obtain⟨r',h3,h4⟩:=tW ws (b:=aJ .or .u32 b x) h2 (fun y hy=>hk y (by simp[hy]))
  refine⟨r',?_,h4⟩
  simp only[kA,hx,h3,aDN,List.foldl_cons,nmV,Option.getD_some]
def NPo:List K→Prop
 | .s c::_=>c≠42∧c≠43∧c≠63
 | _=>True
section
variable{n:Nat}{wh:Int}{sets:gJ}
theorem tN{E:Option (Int→Toks→TR)}{pl:Int}{ts r:Toks}{x:Tree}{p:Int}{ks}(h:hH E wh sets pl ts = .inl (x,r,p))(hr:Kd r ks)(hn:NPo ks):lF E wh sets pl ts = .inl (x,r,p):=by
 simp only[lF,h]
 match ks,hr,hn with
 | [],hr,_=>obtain⟨n,rfl⟩:=Kd.nil hr;rfl
 | .w y::ks,hr,_=>obtain⟨n,r,rfl,_⟩:=Kd.wd hr;rfl
 | .s c::ks,hr,⟨h1,h2,h3⟩ =>
  obtain⟨n,r,rfl,_⟩:=Kd.sg hr
  simp only[]
  rw[if_neg h1,if_neg h2,if_neg h3]
theorem aFs{E:Option (Int→Toks→TR)}{f:Nat}{pl:Int}{ts r:Toks}{x:Tree}{p:Int}{acc}(h:lF E wh sets pl ts = .inl (x,r,p))(hth:xB ts=true):pS E wh sets (f+1) ts pl acc=pS E wh sets f r p (acc++[x]):=by
 have hh:∃y,jQ ts = .inl y:=by
  cases ts with
  | bad n=>cases hth
  | eof n=>cases hth
  | wd w n r=>exact⟨_,rfl⟩
  | sg c n r=>exact⟨_,rfl⟩
 obtain⟨y,hy⟩:=hh
 simp only[pS,hy,hth,if_true,h]
theorem aAF{E:Option (Int→Toks→TR)}{f:Nat}{pl:Int}{ts:Toks}{acc c ks}(h:Kd ts (.s c::ks))(hc:c≠40∧c≠91∧c≠46):pS E wh sets (f+1) ts pl acc = .inl (acc,ts,pl):=by
 obtain⟨m,r,rfl,_⟩:=Kd.sg h
 have hth:xB (.sg c m r)=false:=by
  simp only[xB,Bool.or_eq_false_iff,beq_eq_false_iff_ne]
  exact⟨⟨hc.1,hc.2.1⟩,hc.2.2⟩
 simp only[pS,jQ,hth,Bool.false_eq_true,if_false]
def aBp(n:Nat)(wh:Int)(sets:gJ)(e:Ex)(d:Nat):Prop:=∀(f:Nat) (ts:Toks) (pl:Int) (acc:List Tree) (ks:List K),Kd ts (wK n e++ks)→NPo ks→ts.size<f→0≤pl→pl+e.lv≤200 →
 ∃r f',pS (Eo wh sets d) wh sets f ts pl acc=pS (Eo wh sets d) wh sets f' r (pl+e.lv) (acc++fW n wh sets e)∧Kd r ks∧r.size<f'∧r.size≤ts.size
theorem pB:∀d,rT (Eo wh sets d)
 | 0=>uB
 | _+1=>yO
theorem Z6{e:Ex}{d:Nat}(h:aBp n wh sets e d){ts:Toks}{pl:Int}{c ks}(hk:Kd ts (wK n e ++ .s c::ks))(hc:c≠40∧c≠91∧c≠46)(hp:c≠42∧c≠43∧c≠63)(h0:0≤pl)(h1:pl+e.lv≤200):
  ∃r,vB (Eo wh sets d) wh sets pl ts = .inl (kQ (fW n wh sets e),r,pl+e.lv)∧Kd r (.s c::ks)∧r.size≤ts.size:=by
 obtain⟨r,f',h2,h3,h4,h5⟩:=h (ts.size+1) ts pl [] (.s c::ks) hk hp (by omega) h0 h1
 match f',h4 with
 | f'+1,_ =>
  rw[aAF h3 hc]at h2
  exact⟨r,by simp only[vB,h2,List.nil_append],h3,h5⟩
theorem t7{e:Ex}{d:Nat}(h:aBp n wh sets e d){ts:Toks}{pl:Int}{c ks}(hk:Kd ts (wK n e ++ .s c::ks))(hc:c≠40∧c≠91∧c≠46)(hp:c≠42∧c≠43∧c≠63)(h124:c≠124)(h0:0≤pl)(h1:pl+e.lv≤200):
  ∃r,gU wh sets d pl ts = .inl (kQ (fW n wh sets e),r,pl+e.lv)∧Kd r (.s c::ks):=by
 obtain⟨r,h2,h3,h4⟩:=Z6 h hk hc hp h0 h1
 refine⟨r,?_,h3⟩
 obtain⟨m,r',rfl,h5⟩:=Kd.sg h3
 rw[vT]
 simp only[pA,h2,C4,bF,if_neg h124,aFu]
theorem aIC{a b:Ex}{d:Nat}(ha:aBp n wh sets a d)(hb:aBp n wh sets b d){ts:Toks}{pl:Int}{ks}(hk:Kd ts (wK n a ++ .s 124::(wK n b ++ .s 41::ks)))(h0:0≤pl)(h1:pl+(a.lv+b.lv:Nat)≤200):
  ∃r,gU wh sets d pl ts = .inl (.node 3 0 [kQ (fW n wh sets a),kQ (fW n wh sets b)],r,pl+(a.lv+b.lv:Nat))∧Kd r (.s 41::ks):=by
 obtain⟨r,h2,h3,h4⟩:=Z6 ha hk (by decide) (by decide) h0 (by omega)
 obtain⟨m,r',rfl,h5⟩:=Kd.sg h3
 obtain⟨r2,h6,h7,h8⟩:=Z6 hb h5 (by decide) (by decide) (show 0≤pl+a.lv by omega) (by omega)
 obtain⟨m2,r3,rfl,h9⟩:=Kd.sg h7
 refine⟨_,?_,h7⟩
 rw[vT]
 have e:pl+(a.lv:Int)+(b.lv:Int)=pl+((a.lv+b.lv:Nat):Int):=by omega
 rw[←e]
 have hz:(Toks.sg 124 m r').size+1=(r'.size+1)+1:=rfl
 simp only[pA,h2,hz]
 have s1:bF 124 (.sg 124 m r') = .inl (true,r'):=rfl
 have s2:bF 124 (.sg 41 m2 r3) = .inl (false,.sg 41 m2 r3):=rfl
 simp only[C4,s1,h6]
 cases hzz:r'.size with
 | zero=>simp only[Toks.size]at h8;omega
 | succ k=>simp only[C4,s2];rfl
theorem xC{x:Tree}{d:Nat}{ts:Toks}{pl p:Int}{ks}(hk:∃m r0,ts = .sg 40 m r0∧∃r,gU wh sets d pl r0 = .inl (x,r,p)∧Kd r (.s 41::ks)):∃r,hH (Eo wh sets (d+1)) wh sets pl ts = .inl (x,r,p)∧Kd r ks:=by
 obtain⟨m,r0,rfl,r,h1,h2⟩:=hk
 obtain⟨m2,r2,rfl,h3⟩:=Kd.sg h2
 refine⟨r2,?_,h3⟩
 simp only[hH,if_true,Eo,h1,lL]
def Ex.br:Ex→Nat
 | .star a=>a.br+1
 | .plus a=>a.br+1
 | .opt a=>a.br+1
 | .alt a b=>max a.br b.br+1
 | .seq a b=>max a.br b.br
 | _=>0
theorem oX{E:Option (Int→Toks→TR)}{f:Nat}{ts r:Toks}{pl p:Int}{acc x ks}(hf:ts.size<f)(hE:rT E)(hth:xB ts=true)(h:lF E wh sets pl ts = .inl (x,r,p))(hr:Kd r ks):
  ∃r f',pS E wh sets f ts pl acc=pS E wh sets f' r p (acc++[x])∧Kd r ks∧r.size<f'∧r.size≤ts.size:=by
 match f,hf with
 | f+1,hf =>
  have:=tM hE h
  exact⟨r,f,aFs h hth,hr,by omega,by omega⟩
theorem F0{E:Option (Int→Toks→TR)}{pl p:Int}{ts r:Toks}{x:Tree}{c ks}(h:hH E wh sets pl ts = .inl (x,r,p))(hr:Kd r (.s c::ks)){op:Int}(hc:(c=42∧op=4)∨(c=43∧op=5)∨(c=63∧op=6)):∃r',lF E wh sets pl ts = .inl (.node op 0 [x],r',p)∧Kd r' ks:=by
 obtain⟨m,r',rfl,h2⟩:=Kd.sg hr
 refine⟨r',?_,h2⟩
 simp only[lF,h]
 rcases hc with⟨rfl,rfl⟩ | ⟨rfl,rfl⟩ | ⟨rfl,rfl⟩ <;> rfl
theorem aFh(n:Nat):∀(e:Ex) (ks:List K),NPo (wK n e++ks)
 | .nm _,_=>trivial
 | .any,_=>by show(46:Nat)≠42∧46≠43∧46≠63;decide
 | .set true _,_=>by show(91:Nat)≠42∧91≠43∧91≠63;decide
 | .set false _,_=>by show(91:Nat)≠42∧91≠43∧91≠63;decide
 | .star _,_=>by show(40:Nat)≠42∧40≠43∧40≠63;decide
 | .plus _,_=>by show(40:Nat)≠42∧40≠43∧40≠63;decide
 | .opt _,_=>by show(40:Nat)≠42∧40≠43∧40≠63;decide
 | .alt _ _,_=>by show(40:Nat)≠42∧40≠43∧40≠63;decide
 | .seq a b,ks=>by simp only[wK,List.append_assoc];exact aFh n a _
theorem vJ{n b:Nat}:∀ {k:Nat} {w:List UInt8},w∈eS n b k→∃i,w=[tR n i]
 | 0,_,h=>by cases h
 | k+1,w,h=>by
  simp only[eS,List.mem_append]at h
  rcases h with h | h
  ·exact vJ h
  ·split at h
   ·cases List.mem_singleton.mp h;exact⟨k,rfl⟩
   ·cases h
theorem rZ(hk:∀k,∃x,look sets [tR n k]=some x):∀(e:Ex) (d:Nat),e.br≤d→aBp n wh sets e d
 | .nm k,d,_=>fun f ts pl acc ks h hn hf h0 h1=>by
  obtain⟨m,r,rfl,h2⟩:=Kd.wd (show Kd ts (.w [tR n k]::ks)from h)
  obtain⟨x,hx⟩:=hk k
  simp only[Ex.lv]at h1 ⊢
  refine oX hf (pB d) rfl (tN ?_ h2 hn) h2
  simp only[hH]
  rw[if_neg (by omega),hx]
  simp only[nmV,hx,Option.getD_some];rfl
 | .any,d,_=>fun f ts pl acc ks h hn hf h0 h1=>by
  obtain⟨m,r,rfl,h2⟩:=Kd.sg (show Kd ts (.s 46::ks)from h)
  simp only[Ex.lv]at h1 ⊢
  refine oX hf (pB d) rfl (tN ?_ h2 hn) h2
  simp only[hH]
  rw[if_neg (by decide),if_neg (by omega)]
  rfl
 | .set neg b,d,_=>fun f ts pl acc ks h hn hf h0 h1=>by
  have hw:∀w∈eS n b n,∃x,look sets w=some x:=fun w hw=>by
   obtain⟨i,rfl⟩:=vJ hw
   exact hk i
  simp only[Ex.lv]at h1 ⊢
  cases neg with
  | true =>
   obtain⟨m,r,rfl,h2⟩:=Kd.sg (show Kd ts (.s 91 :: .s 94::((eS n b n).map .w++[.s 93]++ks))from by simpa [wK]using h)
   obtain⟨m2,r2,rfl,h3⟩:=Kd.sg h2
   obtain⟨r3,h4,h5⟩:=tW (b:=0) (eS n b n) (by rw[List.append_assoc]at h3;exact h3) hw
   refine oX hf (pB d) rfl (tN ?_ h5 hn) h5
   simp only[hH]
   rw[if_neg (by decide),if_neg (by omega),if_neg (by decide)]
   simp only[bF,if_true,h4]
   rfl
  | false =>
   obtain⟨m,r,rfl,h2⟩:=Kd.sg (show Kd ts (.s 91::((eS n b n).map .w++[.s 93]++ks))from by simpa [wK]using h)
   rw[List.append_assoc]at h2
   obtain⟨r3,h4,h5⟩:=tW (b:=0) (eS n b n) h2 hw
   have hs:bF 94 r = .inl (false,r):=by
    match hws:eS n b n with
    | [] =>
     rw[hws]at h2
     obtain⟨m2,r2,rfl,_⟩:=Kd.sg h2
     rfl
    | w::ws =>
     rw[hws]at h2
     obtain⟨m2,r2,rfl,_⟩:=Kd.wd h2
     rfl
   refine oX hf (pB d) rfl (tN ?_ h5 hn) h5
   simp only[hH]
   rw[if_neg (by decide),if_neg (by omega),if_neg (by decide),hs]
   simp only[h4]
   rfl
 | .star a,0,hb=>by simp only[Ex.br]at hb;omega
 | .plus a,0,hb=>by simp only[Ex.br]at hb;omega
 | .opt a,0,hb=>by simp only[Ex.br]at hb;omega
 | .alt a b,0,hb=>by simp only[Ex.br]at hb;omega
 | .star a,d+1,hb=>fun f ts pl acc ks h hn hf h0 h1=>by
  simp only[Ex.br]at hb
  simp only[Ex.lv]at h1 ⊢
  simp only[wK,List.cons_append,List.append_assoc,List.nil_append]at h
  obtain⟨m,r,rfl,h2⟩:=Kd.sg h
  obtain⟨r1,h3,h4⟩:=xC (ks:= .s 42::ks) ⟨m,r,rfl,t7 (rZ hk a d (by omega)) h2 (by decide) (by decide) (by decide) h0 h1⟩
  obtain⟨r2,h5,h6⟩:=F0 h3 h4 (.inl ⟨rfl,rfl⟩)
  exact oX hf (pB _) rfl h5 h6
 | .plus a,d+1,hb=>fun f ts pl acc ks h hn hf h0 h1=>by
  simp only[Ex.br]at hb
  simp only[Ex.lv]at h1 ⊢
  simp only[wK,List.cons_append,List.append_assoc,List.nil_append]at h
  obtain⟨m,r,rfl,h2⟩:=Kd.sg h
  obtain⟨r1,h3,h4⟩:=xC (ks:= .s 43::ks) ⟨m,r,rfl,t7 (rZ hk a d (by omega)) h2 (by decide) (by decide) (by decide) h0 h1⟩
  obtain⟨r2,h5,h6⟩:=F0 h3 h4 (.inr (.inl ⟨rfl,rfl⟩))
  exact oX hf (pB _) rfl h5 h6
 | .opt a,d+1,hb=>fun f ts pl acc ks h hn hf h0 h1=>by
  simp only[Ex.br]at hb
  simp only[Ex.lv]at h1 ⊢
  simp only[wK,List.cons_append,List.append_assoc,List.nil_append]at h
  obtain⟨m,r,rfl,h2⟩:=Kd.sg h
  obtain⟨r1,h3,h4⟩:=xC (ks:= .s 63::ks) ⟨m,r,rfl,t7 (rZ hk a d (by omega)) h2 (by decide) (by decide) (by decide) h0 h1⟩
  obtain⟨r2,h5,h6⟩:=F0 h3 h4 (.inr (.inr ⟨rfl,rfl⟩))
  exact oX hf (pB _) rfl h5 h6
 | .alt a b,d+1,hb=>fun f ts pl acc ks h hn hf h0 h1=>by
  simp only[Ex.br]at hb
  simp only[Ex.lv]at h1 ⊢
  simp only[wK,List.cons_append,List.append_assoc,List.nil_append]at h
  obtain⟨m,r,rfl,h2⟩:=Kd.sg h
  obtain⟨r1,h3,h4⟩:=xC (ks:=ks) ⟨m,r,rfl,aIC (rZ hk a d (by omega)) (rZ hk b d (by omega)) h2 h0 h1⟩
  exact oX hf (pB _) rfl (tN h3 h4 hn) h4
 | .seq a b,d,hb=>fun f ts pl acc ks h hn hf h0 h1=>by
  simp only[Ex.br]at hb
  simp only[Ex.lv]at h1 ⊢
  simp only[wK,List.append_assoc]at h
  obtain⟨r,f1,h2,h3,h4,h5⟩:=rZ hk a d (by omega) f ts pl acc _ h (aFh n b ks) hf h0 (by omega)
  obtain⟨r2,f2,h6,h7,h8,h9⟩:=rZ hk b d (by omega) f1 r (pl+a.lv) (acc++fW n wh sets a) ks h3 hn h4 (by omega) (by omega)
  refine⟨r2,f2,?_,h7,h8,by omega⟩
  rw[h2,h6,show pl+((a.lv+b.lv:Nat):Int)=pl+(a.lv:Int)+(b.lv:Int) by omega]
  simp only[fW,List.append_assoc]
def zB(n:Nat)(wh:Int)(sets:gJ):Option Ex→Tree
 | none=> .node 0 0 []
 | some e=>kQ (fW n wh sets e)
def lvO:Option Ex→Nat
 | none=>0
 | some e=>e.lv
def brO:Option Ex→Nat
 | none=>0
 | some e=>e.br
theorem I4(hk:∀k,∃x,look sets [tR n k]=some x)(e:Option Ex){d:Nat}(hd:brO e≤d){ts:Toks}{pl:Int}{c ks}(h:Kd ts (aHp n e ++ .s c::ks))(hc:c≠40∧c≠91∧c≠46)(hp:c≠42∧c≠43∧c≠63)(h124:c≠124)(h0:0≤pl)(h1:pl+(lvO e:Nat)≤200):
  ∃r,gU wh sets d pl ts = .inl (zB n wh sets e,r,pl+(lvO e:Nat))∧Kd r (.s c::ks):=by
 cases e with
 | none =>
  refine⟨ts,?_,h⟩
  have hrow:=aAF (E:=Eo wh sets d) (wh:=wh) (sets:=sets) (f:=ts.size) (pl:=pl) (acc:=[]) (show Kd ts (.s c::ks)from h) hc
  obtain⟨m,r',rfl,h5⟩:=Kd.sg (show Kd ts (.s c::ks)from h)
  rw[vT]
  simp only[pA,vB,hrow,C4,bF,if_neg h124,aFu,zB,kQ,lvO]
  simp
 | some e=>exact t7 (rZ hk e d hd) h hc hp h124 h0 h1
end
end Go.Proofs.YtacpjjgochokcaaDoor.T
