/- A plan's text as pieces. -/
import Derived.Test.YtacpjjgochokcaaDoorTv06pdm
import Derived.Test.YtacpjjgochokcaaDoorTv06pqm
import Derived.Test.YtacpjjgochokcaaDoorTv06pf
namespace Go.Proofs.YtacpjjgochokcaaDoor.T
open Go Go.Tv Go.Proofs
inductive K where
 | w (x:List UInt8)
 | s (c:Nat)
def Kd:Toks→List K→Prop
 | .eof _,[]=>True
 | .wd w _ r,.w x::l=>w=x∧Kd r l
 | .sg c _ r,.s d::l=>c=d∧Kd r l
 | _,_=>False
def Lx(l:List UInt8)(ks:List K):Prop:=∀n,Kd (tk (some 0) l n) ks
def NL(l:List UInt8):Prop:=∀c r,l=c::r→cZ c.toNat=false
theorem aI9:Lx [] []:=fun _=>trivial
theorem aJF{c:UInt8}{r ks}(h35:c.toNat≠35)(hb:sT c.toNat=true)(h:Lx r ks):Lx (c::r) ks:=fun n=>by
 simp only[tk];rw[if_neg h35,if_pos hb];exact h _
theorem aKe{c:UInt8}{r ks}(h35:c.toNat≠35)(hb:sT c.toNat=false)(hl:cZ c.toNat=false)(hs:rO c.toNat=true)(h:Lx r ks):Lx (c::r) (.s c.toNat::ks):=fun n=>by
 simp only[tk];rw[if_neg h35,if_neg (by rw[hb];decide),if_neg (by rw[hl];decide),if_pos hs];exact⟨rfl,h _⟩
theorem aEz{w r:List UInt8}(hw:∀c∈w,cZ c.toNat=true)(hr:NL r):(w++r).takeWhile (fun x=>cZ x.toNat)=w:=by
 induction w with
 | nil =>
  cases r with
  | nil=>rfl
  | cons c r=>simp only[List.nil_append,List.takeWhile_cons,hr c r rfl];rfl
 | cons c w ih =>
  rw[List.cons_append,List.takeWhile_cons,if_pos (hw c (by simp)),ih (fun x hx=>hw x (by simp[hx]))]
theorem aC9{c:Nat}(h:cZ c=true):c≠35∧sT c=false:=by
 refine⟨fun hh=>(by subst hh;cases h),?_⟩
 cases hb:sT c with
 | false=>rfl
 | true =>
  simp only[sT,Bool.or_eq_true,beq_iff_eq]at hb
  rcases hb with((rfl | rfl) | rfl) | rfl <;> cases h
theorem aJQ{w r:List UInt8}{ks}(h0:w≠[])(hw:∀c∈w,cZ c.toNat=true)(hr:NL r)(h:Lx r ks):Lx (w++r) (.w w::ks):=fun n=>by
 match w,h0 with
 | c::w,_ =>
  have hc:=hw c (by simp)
  have ht:=aEz (w:=w) (r:=r) (fun x hx=>hw x (by simp[hx])) hr
  rw[List.cons_append]
  simp only[tk]
  rw[if_neg (aC9 hc).1,if_neg (by rw[(aC9 hc).2];decide),if_pos hc,ht,aAB _ _ _ (by simp)]
  refine⟨rfl,?_⟩
  rw[List.drop_left]
  exact h _
def Px(x:List UInt8)(ks:List K):Prop:=∀r ls,Lx r ls→Lx (x++r) (ks++ls)
def Qx(x:List UInt8)(ks:List K):Prop:=∀r ls,NL r→Lx r ls→Lx (x++r) (ks++ls)
theorem Px.app{x y ks ls}(h1:Px x ks)(h2:Px y ls):Px (x++y) (ks++ls):=fun r ms h=>by
 rw[List.append_assoc,List.append_assoc];exact h1 _ _ (h2 _ _ h)
theorem Px.q{x y ks ls}(h1:Px x ks)(h2:Qx y ls):Qx (x++y) (ks++ls):=fun r ms hn h=>by
 rw[List.append_assoc,List.append_assoc];exact h1 _ _ (h2 _ _ hn h)
theorem Qx.app{x y ks ls}{c:UInt8}{y':List UInt8}(h1:Qx x ks)(hy:y=c::y')(hc:cZ c.toNat=false)(h2:Px y ls):Px (x++y) (ks++ls):=fun r ms h=>by
 rw[List.append_assoc,List.append_assoc]
 exact h1 _ _ (fun d q hd=>by rw[hy,List.cons_append]at hd;cases hd;exact hc) (h2 _ _ h)
theorem Qx.qapp{x y ks ls}{c:UInt8}{y':List UInt8}(h1:Qx x ks)(hy:y=c::y')(hc:cZ c.toNat=false)(h2:Qx y ls):Qx (x++y) (ks++ls):=fun r ms hn h=>by
 rw[List.append_assoc,List.append_assoc]
 exact h1 _ _ (fun d q hd=>by rw[hy,List.cons_append]at hd;cases hd;exact hc) (h2 _ _ hn h)
theorem Px.toQ{x ks}(h:Px x ks):Qx x ks:=fun r ls _=>h r ls
theorem aFr:Px [] []:=fun _ _ h=>h
theorem aIr(c:UInt8)(h35:c.toNat≠35)(hb:sT c.toNat=true):Px [c] []:=fun _ _ h=>aJF h35 hb h
theorem rI(c:UInt8)(h35:c.toNat≠35)(hb:sT c.toNat=false)(hl:cZ c.toNat=false)(hs:rO c.toNat=true):Px [c] [.s c.toNat]:=fun _ _ h=>aKe h35 hb hl hs h
theorem aDm{w:List UInt8}(h0:w≠[])(hw:∀c∈w,cZ c.toNat=true):Qx w [.w w]:=fun _ _ hr h=>aJQ h0 hw hr h
theorem rK:Px [32] []∧Px [10] []∧Px [40] [.s 40]∧Px [41] [.s 41]∧Px [91] [.s 91]∧Px [93] [.s 93]∧Px [94] [.s 94]∧Px [124] [.s 124]∧Px [42] [.s 42]∧Px [43] [.s 43]∧Px [63] [.s 63]∧Px [46] [.s 46]∧Px [59] [.s 59]∧Px [47] [.s 47]∧Px [61] [.s 61] :=
 ⟨aIr 32 (by decide) (by decide),aIr 10 (by decide) (by decide),rI 40 (by decide) (by decide) (by decide) (by decide),rI 41 (by decide) (by decide) (by decide) (by decide),rI 91 (by decide) (by decide) (by decide) (by decide),rI 93 (by decide) (by decide) (by decide) (by decide),rI 94 (by decide) (by decide) (by decide) (by decide),rI 124 (by decide) (by decide) (by decide) (by decide),rI 42 (by decide) (by decide) (by decide) (by decide),rI 43 (by decide) (by decide) (by decide) (by decide),rI 63 (by decide) (by decide) (by decide) (by decide),rI 46 (by decide) (by decide) (by decide) (by decide),rI 59 (by decide) (by decide) (by decide) (by decide),rI 47 (by decide) (by decide) (by decide) (by decide),rI 61 (by decide) (by decide) (by decide) (by decide)⟩
theorem aEo{n i:Nat}(h1:1≤n)(h6:n≤6):(tC n i).toNat=65+i % n:=by
 have:i % n<n:=Nat.mod_lt _ (by omega)
 unfold tC
 simp
 omega
theorem aHj{n i:Nat}(h1:1≤n)(h6:n≤6):cZ (tC n i).toNat=true:=by
 have h:i % n<n:=Nat.mod_lt _ (by omega)
 rw[aEo h1 h6]
 have key:∀m,m<6→cZ (65+m)=true:=by decide
 exact key _ (by omega)
def nmK(n i:Nat):K:= .w [tC n i]
theorem aDI{n i:Nat}(h1:1≤n)(h6:n≤6):Qx [tC n i] [nmK n i]:=aDm (by simp) (fun c hc=>by cases List.mem_singleton.mp hc;exact aHj h1 h6)
def fA(n b:Nat):Nat→List (List UInt8)
 | 0=>[]
 | k+1=>fA n b k++(if b / 2 ^ k % 2=1 then[[tC n k]]else[])
theorem sW{n:Nat}(h1:1≤n)(h6:n≤6)(b:Nat):∀k,Qx (dF n b k) ((fA n b k).map .w)∧(dF n b k=[]∨∃y,dF n b k=32::y)
 | 0=>⟨aFr.toQ,Or.inl rfl⟩
 | k+1=>by
  obtain⟨ih1,ih2⟩:=sW h1 h6 b k
  simp only[dF,fA]
  split
  ·refine⟨?_,?_⟩
   ·rw[List.map_append]
    exact ih1.qapp (c:=32) (y':=[tC n k]) rfl (by decide) (rK.1.q (aDI h1 h6))
   ·rcases ih2 with h | ⟨y,h⟩
    ·exact Or.inr ⟨[tC n k],by rw[h];rfl⟩
    ·exact Or.inr ⟨y++[32,tC n k],by rw[h];rfl⟩
  ·simpa using⟨ih1,ih2⟩
theorem I3{n:Nat}(h1:1≤n)(h6:n≤6)(b:Nat){y ls}{c:UInt8}{y':List UInt8}(hy:y=c::y')(hc:cZ c.toNat=false)(h2:Px y ls):Px (dF n b n++y) ((fA n b n).map .w++ls) :=
 (sW h1 h6 b n).1.app hy hc h2
def xR(n:Nat):Ex→List K
 | .nm k=>[nmK n k]
 | .any=>[.s 46]
 | .set neg b=>(if neg then[.s 91,.s 94]else[.s 91])++(fA n b n).map .w++[.s 93]
 | .star a=> .s 40::(xR n a++[.s 41,.s 42])
 | .plus a=> .s 40::(xR n a++[.s 41,.s 43])
 | .opt a=> .s 40::(xR n a++[.s 41,.s 63])
 | .alt a b=> .s 40::(xR n a ++ .s 124::(xR n b++[.s 41]))
 | .seq a b=>xR n a++xR n b
theorem A9{n:Nat}(h1:1≤n)(h6:n≤6):∀e,Qx (y7 n e) (xR n e)
 | .nm k=>aDI h1 h6
 | .any=>by obtain⟨_,_,_,_,_,_,_,_,_,_,_,h,_⟩:=rK;exact h.toQ
 | .set neg b=>by
  obtain⟨_,_,_,_,c91,c93,c94,_⟩:=rK
  have hb:=I3 h1 h6 b (y:=[93]) rfl (by decide) c93
  simp only[y7,xR]
  rw[List.append_assoc,List.append_assoc]
  cases neg with
  | true=>exact((c91.app c94).app hb).toQ
  | false=>exact(c91.app hb).toQ
 | .star a=>by
  obtain⟨_,_,c40,c41,_,_,_,_,c42,_⟩:=rK
  have:=c40.app ((A9 h1 h6 a).app (y:=[41,42]) rfl (by decide) (c41.app c42))
  simp only[y7,xR];rw[List.append_assoc]
  exact this.toQ
 | .plus a=>by
  obtain⟨_,_,c40,c41,_,_,_,_,_,c43,_⟩:=rK
  have:=c40.app ((A9 h1 h6 a).app (y:=[41,43]) rfl (by decide) (c41.app c43))
  simp only[y7,xR];rw[List.append_assoc]
  exact this.toQ
 | .opt a=>by
  obtain⟨_,_,c40,c41,_,_,_,_,_,_,c63,_⟩:=rK
  have:=c40.app ((A9 h1 h6 a).app (y:=[41,63]) rfl (by decide) (c41.app c63))
  simp only[y7,xR];rw[List.append_assoc]
  exact this.toQ
 | .alt a b=>by
  obtain⟨_,_,c40,c41,_,_,_,c124,_⟩:=rK
  have hb:=(A9 h1 h6 b).app (y:=[41]) rfl (by decide) c41
  have:=c40.app ((A9 h1 h6 a).app (y:=[124]++(y7 n b++[41])) rfl (by decide) (c124.app hb))
  simp only[y7,xR];simp only[List.append_assoc]
  exact this.toQ
 | .seq a b=>by
  simp only[y7,xR]
  rw[List.append_assoc]
  exact(A9 h1 h6 a).qapp (y:=[32]++y7 n b) rfl (by decide) (rK.1.q (A9 h1 h6 b))
def aG5(n:Nat):Option Ex→List K
 | none=>[]
 | some e=>xR n e
theorem aGe{n:Nat}(h1:1≤n)(h6:n≤6):∀e,Qx (aCr n e) (aG5 n e)
 | none=>aFr.toQ
 | some e=>A9 h1 h6 e
def V8(n:Nat):List K:= .w [99,108,97,115,115]::((fA n 255 n).map .w++[.s 59])
def aBL(n:Nat)(j a:Int):List K:=if j=0 then[]else .w [106,111,105,110]::((fA n j.toNat n).map .w ++ .s 47::((fA n a.toNat n).map .w++[.s 59]))
def trK(n:Nat)(tr:List Int):Nat→List K
 | 0=>[]
 | k+1=>trK n tr k++[.w [116,114,101,97,116],nmK n k,.s 61,nmK n (tr.getD k 0).toNat,.s 59]
def uO(d:Int):List UInt8:=([([107,101,101,112]:List UInt8),([109,97,121]:List UInt8),([109,117,115,116]:List UInt8)]:List (List UInt8)).getD (Int.tmod d 3).toNat []
def ruK(n:Nat)(l:List PR):Nat→List K
 | 0=>[]
 | k+1=>ruK n l k++(.w (uO (l.getD k sE).1)::(aG5 n (zQ (l.getD k sE).2.1) ++ .s 47::(aG5 n (zQ (l.getD k sE).2.2)++[.s 59])))
def aBU(c j a:Int)(tr:List Int)(l:List PR):List K:=V8 (cC c)++(aBL (cC c) j a++(trK (cC c) tr (min tr.length (cC c))++ruK (cC c) l (min l.length 10)))
theorem aDg{w:List UInt8}(h0:w≠[])(hw:∀c∈w,cZ c.toNat=true):Px (w++[32]) [.w w]:=(aDm h0 hw).app (y:=[32]) rfl (by decide) rK.1
theorem Z9:Px [59,10] [.s 59]:=by
 obtain⟨_,c10,_,_,_,_,_,_,_,_,_,_,c59,_⟩:=rK
 exact c59.app c10
theorem aDk{n:Nat}(h1:1≤n)(h6:n≤6):Px (Z5 n) (V8 n):=by
 have hn:=I3 h1 h6 255 (y:=[59,10]) rfl (by decide) Z9
 have hne:∃y,dF n 255 n=32::y:=by
  rcases(sW h1 h6 255 n).2 with h | h
  ·exfalso
   match n,h1 with
   | n+1,_ =>
    simp only[dF]at h
    have hb:255 / 2 ^ n % 2=1:=by
     have key:∀m,m<6→255 / 2 ^ m % 2=1:=by decide
     exact key n (by omega)
    rw[if_pos hb]at h
    simp at h
  ·exact h
 obtain⟨y,hy⟩:=hne
 unfold Z5 V8
 rw[List.append_assoc]
 exact(aDm (w:=[99,108,97,115,115]) (by simp) (by decide)).app (c:=32) (y':=y++[59,10]) (by rw[hy];rfl) (by decide) hn
theorem aHd{n:Nat}(h1:1≤n)(h6:n≤6)(j a:Int):Px (rD n j a) (V8 n++aBL n j a):=by
 unfold rD aBL
 split
 ·rw[List.append_nil];exact aDk h1 h6
 ·obtain⟨c32,_,_,_,_,_,_,_,_,_,_,_,_,c47,_⟩:=rK
  have h2:=I3 h1 h6 a.toNat (y:=[59,10]) rfl (by decide) Z9
  have h3:=(sW h1 h6 j.toNat n).1.app (y:=[32,47]++(dF n a.toNat n++[59,10])) rfl (by decide) ((c32.app c47).app h2)
  have hy:∃c y',dF n j.toNat n++([32,47]++(dF n a.toNat n++[59,10]))=c::y'∧cZ c.toNat=false:=by
   rcases(sW h1 h6 j.toNat n).2 with h | ⟨y,h⟩
   ·exact⟨32,47::(dF n a.toNat n++[59,10]),by rw[h];rfl,by decide⟩
   ·exact⟨32,_,by rw[h];rfl,by decide⟩
  obtain⟨c,y',hy1,hy2⟩:=hy
  have h4:=(aDm (w:=[106,111,105,110]) (by simp) (by decide)).app hy1 hy2 h3
  have:=(aDk h1 h6).app h4
  simp only[List.append_assoc]at this ⊢
  exact this
theorem aIA{n:Nat}(h1:1≤n)(h6:n≤6){b ks}(hb:Px b ks)(tr:List Int):∀k,Px (trT b n tr k) (ks++trK n tr k)
 | 0=>by rw[show trK n tr 0=[]from rfl,List.append_nil];exact hb
 | k+1=>by
  obtain⟨c32,_,_,_,_,_,_,_,_,_,_,_,_,_,c61⟩:=rK
  have ih:=aIA h1 h6 hb tr k
  have w1:=aDg (w:=[116,114,101,97,116]) (by simp) (by decide)
  have w4:=(aDI (i:=(tr.getD k 0).toNat) h1 h6).app (y:=[59,10]) rfl (by decide) Z9
  have w3:=(c32.app (c61.app c32)).app w4
  have w2:=(aDI (i:=k) h1 h6).app (y:=[32,61,32]++([tC n (tr.getD k 0).toNat]++[59,10])) rfl (by decide) w3
  have:=ih.app (w1.app w2)
  simp only[trT,trK]
  simp only[List.append_assoc]at this ⊢
  exact this
theorem aE4{d:Int}(h:0≤d):vI d=uO d++[32]∧uO d≠[]∧∀c∈uO d,cZ c.toNat=true:=by
 obtain⟨m,rfl⟩:=Int.eq_ofNat_of_zero_le h
 have e:Int.tmod ((m:Nat):Int) (3:Int)=((m % 3:Nat):Int):=rfl
 unfold vI uO
 rw[e,Int.toNat_natCast]
 have hm:m % 3<3:=Nat.mod_lt _ (by decide)
 generalize m % 3=k at hm
 match k,hm with
 | 0,_=>exact⟨rfl,by decide,by decide⟩
 | 1,_=>exact⟨rfl,by decide,by decide⟩
 | 2,_=>exact⟨rfl,by decide,by decide⟩
theorem aIG{n:Nat}(h1:1≤n)(h6:n≤6){b ks}(hb:Px b ks){l:List PR}(hl:∀x∈l,0≤x.1):∀k,k≤l.length→Px (ruT b n l k) (ks++ruK n l k)
 | 0,_=>by rw[show ruK n l 0=[]from rfl,List.append_nil];exact hb
 | k+1,hk=>by
  obtain⟨c32,_,_,_,_,_,_,_,_,_,_,_,_,c47,_⟩:=rK
  have ih:=aIG h1 h6 hb hl k (by omega)
  obtain⟨d1,d2,d3⟩:=aE4 (hl _ (cS (d:=sE) (show k<l.length by omega)))
  have w1:=aDg d2 d3
  have w4:=(aGe h1 h6 (zQ (l.getD k sE).2.2)).app (y:=[59,10]) rfl (by decide) Z9
  have w3:=(c32.app (c47.app c32)).app w4
  have w2:=(aGe h1 h6 (zQ (l.getD k sE).2.1)).app (y:=[32,47,32]++(aCr n (zQ (l.getD k sE).2.2)++[59,10])) rfl (by decide) w3
  have:=ih.app (w1.app w2)
  simp only[ruT,ruK,d1]
  simp only[List.append_assoc]at this ⊢
  exact this
theorem aHZ{c j a:Int}{tr:List Int}{l:List PR}(h:Pl c j a tr l):Px (D4 c j a tr l) (aBU c j a tr l):=by
 have h1:=tU c
 have h6:=uQ c
 have:=aIG h1 h6 (aIA h1 h6 (aHd h1 h6 j a) tr (min tr.length (cC c))) (fun x hx=>(h.hl x hx).1.1) (min l.length 10) (Nat.min_le_left _ _)
 unfold D4 aBU
 simp only[List.append_assoc]at this
 exact this
theorem aFz{c j a:Int}{tr:List Int}{l:List PR}(h:Pl c j a tr l):Kd (T (D4 c j a tr l) 0) (aBU c j a tr l):=by
 have:=aHZ h [] [] aI9 0
 rw[List.append_nil,List.append_nil]at this
 exact this
end Go.Proofs.YtacpjjgochokcaaDoor.T
namespace Go.Proofs.YtacpjjgochokcaaDoor.T
open Go Go.Tv Go.Proofs
def Eo(wh:Int)(sets:g7):Nat→Option (Int→Toks→TR)
 | 0=>none
 | d+1=>some (iE wh sets d)
theorem wE(wh:Int)(sets:g7):∀d,iE wh sets d=pW (Eo wh sets d) wh sets
 | 0=>rfl
 | _+1=>rfl
def Ex.lv:Ex→Nat
 | .star a=>a.lv
 | .plus a=>a.lv
 | .opt a=>a.lv
 | .alt a b=>a.lv+b.lv
 | .seq a b=>a.lv+b.lv
 | _=>1
theorem Ex.lv_le:∀e:Ex,e.lv≤2 ^ e.D
 | .star a=>by have:=a.lv_le;simp only[Ex.lv,Ex.D,Nat.pow_succ];omega
 | .plus a=>by have:=a.lv_le;simp only[Ex.lv,Ex.D,Nat.pow_succ];omega
 | .opt a=>by have:=a.lv_le;simp only[Ex.lv,Ex.D,Nat.pow_succ];omega
 | .alt a b=>by
  have h1:=a.lv_le;have h2:=b.lv_le
  have h3:=Nat.pow_le_pow_right (show 0<2 by decide) (Nat.le_max_left a.D b.D);have h4:=Nat.pow_le_pow_right (show 0<2 by decide) (Nat.le_max_right a.D b.D)
  simp only[Ex.lv,Ex.D,Nat.pow_succ];omega
 | .seq a b=>by
  have h1:=a.lv_le;have h2:=b.lv_le
  have h3:=Nat.pow_le_pow_right (show 0<2 by decide) (Nat.le_max_left a.D b.D);have h4:=Nat.pow_le_pow_right (show 0<2 by decide) (Nat.le_max_right a.D b.D)
  simp only[Ex.lv,Ex.D,Nat.pow_succ];omega
 | .set _ _=>by simp[Ex.lv,Ex.D]
 | .any=>by simp[Ex.lv,Ex.D]
 | .nm _=>by simp[Ex.lv,Ex.D]
def nmV(sets:g7)(w:List UInt8):Int:=(look sets w).getD 0
def aEv(sets:g7)(ws:List (List UInt8))(b:Int):Int:=ws.foldl (fun x w=>aO .or .u32 x (nmV sets w)) b
def gN(n:Nat)(wh:Int)(sets:g7):Ex→List Tree
 | .nm k=>[.node 1 (nmV sets [tC n k]) []]
 | .any=>[.node 1 wh []]
 | .set neg b=>[.node 1 (if neg then aO .andNot .u32 wh (aEv sets (fA n b n) 0)else aEv sets (fA n b n) 0) []]
 | .star a=>[.node 4 0 [lM (gN n wh sets a)]]
 | .plus a=>[.node 5 0 [lM (gN n wh sets a)]]
 | .opt a=>[.node 6 0 [lM (gN n wh sets a)]]
 | .alt a b=>[.node 3 0 [lM (gN n wh sets a),lM (gN n wh sets b)]]
 | .seq a b=>gN n wh sets a++gN n wh sets b
theorem Kd.wd{ts:Toks}{x ks}(h:Kd ts (.w x::ks)):∃n r,ts = .wd x n r∧Kd r ks:=by
 cases ts with
 | bad n=>exact h.elim
 | eof n=>exact h.elim
 | wd w n r=>obtain⟨h1,h2⟩:=h;subst h1;exact⟨n,r,rfl,h2⟩
 | sg c n r=>exact h.elim
theorem Kd.sg{ts:Toks}{c ks}(h:Kd ts (.s c::ks)):∃n r,ts = .sg c n r∧Kd r ks:=by
 cases ts with
 | bad n=>exact h.elim
 | eof n=>exact h.elim
 | wd w n r=>exact h.elim
 | sg d n r=>obtain⟨h1,h2⟩:=h;subst h1;exact⟨n,r,rfl,h2⟩
theorem Kd.nil{ts:Toks}(h:Kd ts []):∃n,ts = .eof n:=by
 cases ts with
 | bad n=>exact h.elim
 | eof n=>exact⟨n,rfl⟩
 | wd w n r=>exact h.elim
 | sg d n r=>exact h.elim
theorem tZ{c:Nat}{sets:g7}:∀(ws:List (List UInt8)) {ts:Toks} {b:Int} {ks},Kd ts (ws.map .w ++ .s c::ks)→(∀w∈ws,∃x,look sets w=some x)→∃r,lG c sets ts b = .inl (aEv sets ws b,r)∧Kd r ks
 | [],ts,b,ks,h,_=>by
  obtain⟨n,r,rfl,h2⟩:=Kd.sg h
  exact⟨r,by simp only[lG,if_true];rfl,h2⟩
 | w::ws,ts,b,ks,h,hk=>by
  obtain⟨n,r,rfl,h2⟩:=Kd.wd (show Kd ts (.w w::(ws.map .w ++ .s c::ks))from h)
  obtain⟨x,hx⟩:=hk w (by simp)
  obtain⟨r',h3,h4⟩:=tZ ws (b:=aO .or .u32 b x) h2 (fun y hy=>hk y (by simp[hy]))
  refine⟨r',?_,h4⟩
  simp only[lG,hx,h3,aEv,List.foldl_cons,nmV,Option.getD_some]
def NPo:List K→Prop
 | .s c::_=>c≠42∧c≠43∧c≠63
 | _=>True
section
variable{n:Nat}{wh:Int}{sets:g7}
theorem uP{E:Option (Int→Toks→TR)}{pl:Int}{ts r:Toks}{x:Tree}{p:Int}{ks}(h:iJ E wh sets pl ts = .inl (x,r,p))(hr:Kd r ks)(hn:NPo ks):mD E wh sets pl ts = .inl (x,r,p):=by
 simp only[mD,h]
 match ks,hr,hn with
 | [],hr,_=>obtain⟨n,rfl⟩:=Kd.nil hr;rfl
 | .w y::ks,hr,_=>obtain⟨n,r,rfl,_⟩:=Kd.wd hr;rfl
 | .s c::ks,hr,⟨h1,h2,h3⟩ =>
  obtain⟨n,r,rfl,_⟩:=Kd.sg hr
  simp only[]
  rw[if_neg h1,if_neg h2,if_neg h3]
theorem aF7{E:Option (Int→Toks→TR)}{f:Nat}{pl:Int}{ts r:Toks}{x:Tree}{p:Int}{acc}(h:mD E wh sets pl ts = .inl (x,r,p))(hth:yF ts=true):qL E wh sets (f+1) ts pl acc=qL E wh sets f r p (acc++[x]):=by
 have hh:∃y,kL ts = .inl y:=by
  cases ts with
  | bad n=>cases hth
  | eof n=>cases hth
  | wd w n r=>exact⟨_,rfl⟩
  | sg c n r=>exact⟨_,rfl⟩
 obtain⟨y,hy⟩:=hh
 simp only[qL,hy,hth,if_true,h]
theorem aA9{E:Option (Int→Toks→TR)}{f:Nat}{pl:Int}{ts:Toks}{acc c ks}(h:Kd ts (.s c::ks))(hc:c≠40∧c≠91∧c≠46):qL E wh sets (f+1) ts pl acc = .inl (acc,ts,pl):=by
 obtain⟨m,r,rfl,_⟩:=Kd.sg h
 have hth:yF (.sg c m r)=false:=by
  simp only[yF,Bool.or_eq_false_iff,beq_eq_false_iff_ne]
  exact⟨⟨hc.1,hc.2.1⟩,hc.2.2⟩
 simp only[qL,kL,hth,Bool.false_eq_true,if_false]
def aBc(n:Nat)(wh:Int)(sets:g7)(e:Ex)(d:Nat):Prop:=∀(f:Nat) (ts:Toks) (pl:Int) (acc:List Tree) (ks:List K),Kd ts (xR n e++ks)→NPo ks→ts.size<f→0≤pl→pl+e.lv≤200 →
 ∃r f',qL (Eo wh sets d) wh sets f ts pl acc=qL (Eo wh sets d) wh sets f' r (pl+e.lv) (acc++gN n wh sets e)∧Kd r ks∧r.size<f'∧r.size≤ts.size
theorem pU:∀d,sQ (Eo wh sets d)
 | 0=>u3
 | _+1=>z9
theorem aAc{e:Ex}{d:Nat}(h:aBc n wh sets e d){ts:Toks}{pl:Int}{c ks}(hk:Kd ts (xR n e ++ .s c::ks))(hc:c≠40∧c≠91∧c≠46)(hp:c≠42∧c≠43∧c≠63)(h0:0≤pl)(h1:pl+e.lv≤200):
  ∃r,wA (Eo wh sets d) wh sets pl ts = .inl (lM (gN n wh sets e),r,pl+e.lv)∧Kd r (.s c::ks)∧r.size≤ts.size:=by
 obtain⟨r,f',h2,h3,h4,h5⟩:=h (ts.size+1) ts pl [] (.s c::ks) hk hp (by omega) h0 h1
 match f',h4 with
 | f'+1,_ =>
  rw[aA9 h3 hc]at h2
  exact⟨r,by simp only[wA,h2,List.nil_append],h3,h5⟩
theorem uU{e:Ex}{d:Nat}(h:aBc n wh sets e d){ts:Toks}{pl:Int}{c ks}(hk:Kd ts (xR n e ++ .s c::ks))(hc:c≠40∧c≠91∧c≠46)(hp:c≠42∧c≠43∧c≠63)(h124:c≠124)(h0:0≤pl)(h1:pl+e.lv≤200):
  ∃r,iE wh sets d pl ts = .inl (lM (gN n wh sets e),r,pl+e.lv)∧Kd r (.s c::ks):=by
 obtain⟨r,h2,h3,h4⟩:=aAc h hk hc hp h0 h1
 refine⟨r,?_,h3⟩
 obtain⟨m,r',rfl,h5⟩:=Kd.sg h3
 rw[wE]
 simp only[pW,h2,F6,bH,if_neg h124,aF9]
theorem aIS{a b:Ex}{d:Nat}(ha:aBc n wh sets a d)(hb:aBc n wh sets b d){ts:Toks}{pl:Int}{ks}(hk:Kd ts (xR n a ++ .s 124::(xR n b ++ .s 41::ks)))(h0:0≤pl)(h1:pl+(a.lv+b.lv:Nat)≤200):
  ∃r,iE wh sets d pl ts = .inl (.node 3 0 [lM (gN n wh sets a),lM (gN n wh sets b)],r,pl+(a.lv+b.lv:Nat))∧Kd r (.s 41::ks):=by
 obtain⟨r,h2,h3,h4⟩:=aAc ha hk (by decide) (by decide) h0 (by omega)
 obtain⟨m,r',rfl,h5⟩:=Kd.sg h3
 obtain⟨r2,h6,h7,h8⟩:=aAc hb h5 (by decide) (by decide) (show 0≤pl+a.lv by omega) (by omega)
 obtain⟨m2,r3,rfl,h9⟩:=Kd.sg h7
 refine⟨_,?_,h7⟩
 rw[wE]
 have e:pl+(a.lv:Int)+(b.lv:Int)=pl+((a.lv+b.lv:Nat):Int):=by omega
 rw[←e]
 have hz:(Toks.sg 124 m r').size+1=(r'.size+1)+1:=rfl
 simp only[pW,h2,hz]
 have s1:bH 124 (.sg 124 m r') = .inl (true,r'):=rfl
 have s2:bH 124 (.sg 41 m2 r3) = .inl (false,.sg 41 m2 r3):=rfl
 simp only[F6,s1,h6]
 cases hzz:r'.size with
 | zero=>simp only[Toks.size]at h8;omega
 | succ k=>simp only[F6,s2];rfl
theorem x6{x:Tree}{d:Nat}{ts:Toks}{pl p:Int}{ks}(hk:∃m r0,ts = .sg 40 m r0∧∃r,iE wh sets d pl r0 = .inl (x,r,p)∧Kd r (.s 41::ks)):∃r,iJ (Eo wh sets (d+1)) wh sets pl ts = .inl (x,r,p)∧Kd r ks:=by
 obtain⟨m,r0,rfl,r,h1,h2⟩:=hk
 obtain⟨m2,r2,rfl,h3⟩:=Kd.sg h2
 refine⟨r2,?_,h3⟩
 simp only[iJ,if_true,Eo,h1,mH]
def Ex.br:Ex→Nat
 | .star a=>a.br+1
 | .plus a=>a.br+1
 | .opt a=>a.br+1
 | .alt a b=>max a.br b.br+1
 | .seq a b=>max a.br b.br
 | _=>0
theorem qG{E:Option (Int→Toks→TR)}{f:Nat}{ts r:Toks}{pl p:Int}{acc x ks}(hf:ts.size<f)(hE:sQ E)(hth:yF ts=true)(h:mD E wh sets pl ts = .inl (x,r,p))(hr:Kd r ks):
  ∃r f',qL E wh sets f ts pl acc=qL E wh sets f' r p (acc++[x])∧Kd r ks∧r.size<f'∧r.size≤ts.size:=by
 match f,hf with
 | f+1,hf =>
  have:=t7 hE h
  exact⟨r,f,aF7 h hth,hr,by omega,by omega⟩
theorem O5{E:Option (Int→Toks→TR)}{pl p:Int}{ts r:Toks}{x:Tree}{c ks}(h:iJ E wh sets pl ts = .inl (x,r,p))(hr:Kd r (.s c::ks)){op:Int}(hc:(c=42∧op=4)∨(c=43∧op=5)∨(c=63∧op=6)):∃r',mD E wh sets pl ts = .inl (.node op 0 [x],r',p)∧Kd r' ks:=by
 obtain⟨m,r',rfl,h2⟩:=Kd.sg hr
 refine⟨r',?_,h2⟩
 simp only[mD,h]
 rcases hc with⟨rfl,rfl⟩ | ⟨rfl,rfl⟩ | ⟨rfl,rfl⟩ <;> rfl
theorem aGf(n:Nat):∀(e:Ex) (ks:List K),NPo (xR n e++ks)
 | .nm _,_=>trivial
 | .any,_=>by show(46:Nat)≠42∧46≠43∧46≠63;decide
 | .set true _,_=>by show(91:Nat)≠42∧91≠43∧91≠63;decide
 | .set false _,_=>by show(91:Nat)≠42∧91≠43∧91≠63;decide
 | .star _,_=>by show(40:Nat)≠42∧40≠43∧40≠63;decide
 | .plus _,_=>by show(40:Nat)≠42∧40≠43∧40≠63;decide
 | .opt _,_=>by show(40:Nat)≠42∧40≠43∧40≠63;decide
 | .alt _ _,_=>by show(40:Nat)≠42∧40≠43∧40≠63;decide
 | .seq a b,ks=>by simp only[xR,List.append_assoc];exact aGf n a _
theorem wC{n b:Nat}:∀ {k:Nat} {w:List UInt8},w∈fA n b k→∃i,w=[tC n i]
 | 0,_,h=>by cases h
 | k+1,w,h=>by
  simp only[fA,List.mem_append]at h
  rcases h with h | h
  ·exact wC h
  ·split at h
   ·cases List.mem_singleton.mp h;exact⟨k,rfl⟩
   ·cases h
theorem tD(hk:∀k,∃x,look sets [tC n k]=some x):∀(e:Ex) (d:Nat),e.br≤d→aBc n wh sets e d
 | .nm k,d,_=>fun f ts pl acc ks h hn hf h0 h1=>by
  obtain⟨m,r,rfl,h2⟩:=Kd.wd (show Kd ts (.w [tC n k]::ks)from h)
  obtain⟨x,hx⟩:=hk k
  simp only[Ex.lv]at h1 ⊢
  refine qG hf (pU d) rfl (uP ?_ h2 hn) h2
  simp only[iJ]
  rw[if_neg (by omega),hx]
  simp only[nmV,hx,Option.getD_some];rfl
 | .any,d,_=>fun f ts pl acc ks h hn hf h0 h1=>by
  obtain⟨m,r,rfl,h2⟩:=Kd.sg (show Kd ts (.s 46::ks)from h)
  simp only[Ex.lv]at h1 ⊢
  refine qG hf (pU d) rfl (uP ?_ h2 hn) h2
  simp only[iJ]
  rw[if_neg (by decide),if_neg (by omega)]
  rfl
 | .set neg b,d,_=>fun f ts pl acc ks h hn hf h0 h1=>by
  have hw:∀w∈fA n b n,∃x,look sets w=some x:=fun w hw=>by
   obtain⟨i,rfl⟩:=wC hw
   exact hk i
  simp only[Ex.lv]at h1 ⊢
  cases neg with
  | true =>
   obtain⟨m,r,rfl,h2⟩:=Kd.sg (show Kd ts (.s 91 :: .s 94::((fA n b n).map .w++[.s 93]++ks))from by simpa [xR]using h)
   obtain⟨m2,r2,rfl,h3⟩:=Kd.sg h2
   obtain⟨r3,h4,h5⟩:=tZ (b:=0) (fA n b n) (by rw[List.append_assoc]at h3;exact h3) hw
   refine qG hf (pU d) rfl (uP ?_ h5 hn) h5
   simp only[iJ]
   rw[if_neg (by decide),if_neg (by omega),if_neg (by decide)]
   simp only[bH,if_true,h4]
   rfl
  | false =>
   obtain⟨m,r,rfl,h2⟩:=Kd.sg (show Kd ts (.s 91::((fA n b n).map .w++[.s 93]++ks))from by simpa [xR]using h)
   rw[List.append_assoc]at h2
   obtain⟨r3,h4,h5⟩:=tZ (b:=0) (fA n b n) h2 hw
   have hs:bH 94 r = .inl (false,r):=by
    match hws:fA n b n with
    | [] =>
     rw[hws]at h2
     obtain⟨m2,r2,rfl,_⟩:=Kd.sg h2
     rfl
    | w::ws =>
     rw[hws]at h2
     obtain⟨m2,r2,rfl,_⟩:=Kd.wd h2
     rfl
   refine qG hf (pU d) rfl (uP ?_ h5 hn) h5
   simp only[iJ]
   rw[if_neg (by decide),if_neg (by omega),if_neg (by decide),hs]
   simp only[h4]
   rfl
 | .star a,0,hb=>by simp only[Ex.br]at hb;omega
 | .plus a,0,hb=>by simp only[Ex.br]at hb;omega
 | .opt a,0,hb=>by simp only[Ex.br]at hb;omega
 | .alt a b,0,hb=>by simp only[Ex.br]at hb;omega
 | .star a,d+1,hb=>fun f ts pl acc ks h hn hf h0 h1=>by
  simp only[Ex.br]at hb
  simp only[Ex.lv]at h1 ⊢
  simp only[xR,List.cons_append,List.append_assoc,List.nil_append]at h
  obtain⟨m,r,rfl,h2⟩:=Kd.sg h
  obtain⟨r1,h3,h4⟩:=x6 (ks:= .s 42::ks) ⟨m,r,rfl,uU (tD hk a d (by omega)) h2 (by decide) (by decide) (by decide) h0 h1⟩
  obtain⟨r2,h5,h6⟩:=O5 h3 h4 (.inl ⟨rfl,rfl⟩)
  exact qG hf (pU _) rfl h5 h6
 | .plus a,d+1,hb=>fun f ts pl acc ks h hn hf h0 h1=>by
  simp only[Ex.br]at hb
  simp only[Ex.lv]at h1 ⊢
  simp only[xR,List.cons_append,List.append_assoc,List.nil_append]at h
  obtain⟨m,r,rfl,h2⟩:=Kd.sg h
  obtain⟨r1,h3,h4⟩:=x6 (ks:= .s 43::ks) ⟨m,r,rfl,uU (tD hk a d (by omega)) h2 (by decide) (by decide) (by decide) h0 h1⟩
  obtain⟨r2,h5,h6⟩:=O5 h3 h4 (.inr (.inl ⟨rfl,rfl⟩))
  exact qG hf (pU _) rfl h5 h6
 | .opt a,d+1,hb=>fun f ts pl acc ks h hn hf h0 h1=>by
  simp only[Ex.br]at hb
  simp only[Ex.lv]at h1 ⊢
  simp only[xR,List.cons_append,List.append_assoc,List.nil_append]at h
  obtain⟨m,r,rfl,h2⟩:=Kd.sg h
  obtain⟨r1,h3,h4⟩:=x6 (ks:= .s 63::ks) ⟨m,r,rfl,uU (tD hk a d (by omega)) h2 (by decide) (by decide) (by decide) h0 h1⟩
  obtain⟨r2,h5,h6⟩:=O5 h3 h4 (.inr (.inr ⟨rfl,rfl⟩))
  exact qG hf (pU _) rfl h5 h6
 | .alt a b,d+1,hb=>fun f ts pl acc ks h hn hf h0 h1=>by
  simp only[Ex.br]at hb
  simp only[Ex.lv]at h1 ⊢
  simp only[xR,List.cons_append,List.append_assoc,List.nil_append]at h
  obtain⟨m,r,rfl,h2⟩:=Kd.sg h
  obtain⟨r1,h3,h4⟩:=x6 (ks:=ks) ⟨m,r,rfl,aIS (tD hk a d (by omega)) (tD hk b d (by omega)) h2 h0 h1⟩
  exact qG hf (pU _) rfl (uP h3 h4 hn) h4
 | .seq a b,d,hb=>fun f ts pl acc ks h hn hf h0 h1=>by
  simp only[Ex.br]at hb
  simp only[Ex.lv]at h1 ⊢
  simp only[xR,List.append_assoc]at h
  obtain⟨r,f1,h2,h3,h4,h5⟩:=tD hk a d (by omega) f ts pl acc _ h (aGf n b ks) hf h0 (by omega)
  obtain⟨r2,f2,h6,h7,h8,h9⟩:=tD hk b d (by omega) f1 r (pl+a.lv) (acc++gN n wh sets a) ks h3 hn h4 (by omega) (by omega)
  refine⟨r2,f2,?_,h7,h8,by omega⟩
  rw[h2,h6,show pl+((a.lv+b.lv:Nat):Int)=pl+(a.lv:Int)+(b.lv:Int) by omega]
  simp only[gN,List.append_assoc]
def U2(n:Nat)(wh:Int)(sets:g7):Option Ex→Tree
 | none=> .node 0 0 []
 | some e=>lM (gN n wh sets e)
def lvO:Option Ex→Nat
 | none=>0
 | some e=>e.lv
def brO:Option Ex→Nat
 | none=>0
 | some e=>e.br
theorem R1(hk:∀k,∃x,look sets [tC n k]=some x)(e:Option Ex){d:Nat}(hd:brO e≤d){ts:Toks}{pl:Int}{c ks}(h:Kd ts (aG5 n e ++ .s c::ks))(hc:c≠40∧c≠91∧c≠46)(hp:c≠42∧c≠43∧c≠63)(h124:c≠124)(h0:0≤pl)(h1:pl+(lvO e:Nat)≤200):
  ∃r,iE wh sets d pl ts = .inl (U2 n wh sets e,r,pl+(lvO e:Nat))∧Kd r (.s c::ks):=by
 cases e with
 | none =>
  refine⟨ts,?_,h⟩
  have hrow:=aA9 (E:=Eo wh sets d) (wh:=wh) (sets:=sets) (f:=ts.size) (pl:=pl) (acc:=[]) (show Kd ts (.s c::ks)from h) hc
  obtain⟨m,r',rfl,h5⟩:=Kd.sg (show Kd ts (.s c::ks)from h)
  rw[wE]
  simp only[pW,wA,hrow,F6,bH,if_neg h124,aF9,U2,lM,lvO]
  simp
 | some e=>exact uU (tD hk e d hd) h hc hp h124 h0 h1
end
end Go.Proofs.YtacpjjgochokcaaDoor.T
