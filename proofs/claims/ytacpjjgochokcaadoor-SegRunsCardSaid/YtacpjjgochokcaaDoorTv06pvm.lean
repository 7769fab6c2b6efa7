/- What a plan's pieces say: lines. -/
import Derived.Test.YtacpjjgochokcaaDoorTv06ptm
import Derived.Test.YtacpjjgochokcaaDoorTv06pi
import Derived.Test.YtacpjjgochokcaaDoorTv06ardm
namespace Go.Proofs.YtacpjjgochokcaaDoor.T
open Go Go.Tv Go.Proofs
def mO(n:Nat):List (List UInt8):=fA n 255 n
def gH(n:Nat):g7:=(mO n).zip ((List.range n).map U0)
def t0P(n:Nat):List Int:=(List.range n).map (fun(k:Nat)=>(k:Int))
theorem aHl(n k:Nat):tC n k=tC n (k % n):=by unfold tC;rw[Nat.mod_mod]
theorem aF5:((List.range 7).all fun n=>(List.range n).all fun m=>(cM (mO n) [tC n m] == m) && (look (gH n) [tC n m] == some (U0 m)) && ((mO n).length == n))=true:=by kernel_rfl
theorem x9{n:Nat}(h1:1≤n)(h6:n≤6)(k:Nat):cM (mO n) [tC n k]=k % n∧look (gH n) [tC n k]=some (U0 (k % n))∧(mO n).length=n:=by
 have a:=List.all_eq_true.mp aF5 n (List.mem_range.mpr (by omega))
 have b:=List.all_eq_true.mp a (k % n) (List.mem_range.mpr (Nat.mod_lt _ (by omega)))
 simp only[Bool.and_eq_true,beq_iff_eq]at b
 rw[aHl]
 exact⟨b.1.1,b.1.2,b.2⟩
def aHs:List (List UInt8)→List (List UInt8)×List Int×g7→List (List UInt8)×List Int×g7
 | [],s=>s
 | w::ws,s=>aHs ws (s.1++[w],s.2.1++[(s.1.length:Int)],s.2.2++[(w,U0 s.1.length)])
def aG0:List (List UInt8)→Nat×g7→Bool
 | [],_=>true
 | w::ws,s=>(look s.2 w).isNone && decide (s.1<24) && aG0 ws (s.1+1,s.2++[(w,U0 s.1)])
theorem W1:∀(ws:List (List UInt8)) {f:Nat} {ts:Toks} {cls tr sets ks},Kd ts (ws.map .w ++ .s 59::ks)→ts.size<f→aG0 ws (cls.length,sets)=true →
  ∃r,lQ f ts cls tr sets = .inl (r,(aHs ws (cls,tr,sets)))∧Kd r ks
 | [],f,ts,cls,tr,sets,ks,h,hf,hF=>by
  obtain⟨n,r,rfl,h2⟩:=Kd.sg h
  match f,hf with
  | f+1,_=>exact⟨r,by simp only[lQ,bH,if_true];rfl,h2⟩
 | w::ws,f,ts,cls,tr,sets,ks,h,hf,hF=>by
  obtain⟨n,r,rfl,h2⟩:=Kd.wd (show Kd ts (.w w::(ws.map .w ++ .s 59::ks))from h)
  simp only[aG0,Bool.and_eq_true,Option.isNone_iff_eq_none,decide_eq_true_eq]at hF
  obtain⟨⟨g1,g2⟩,g3⟩:=hF
  match f,hf with
  | f+1,hf =>
   simp only[Toks.size]at hf
   obtain⟨r',h3,h4⟩:=W1 ws (f:=f) (cls:=cls++[w]) (tr:=tr++[(cls.length:Int)]) (sets:=sets++[(w,U0 cls.length)]) h2 (by omega) (by simpa using g3)
   refine⟨r',?_,h4⟩
   have s1:bH 59 (.wd w n r) = .inl (false,.wd w n r):=rfl
   have s2:kO sets (.wd w n r) = .inl (w,n,r):=by simp only[kO,jZ,g1]
   simp only[lQ,s1,s2]
   rw[if_neg (by omega),h3]
   rfl
theorem aJk:((List.range 7).all fun n=>decide (aHs (mO n) ([],[],[])=(mO n,t0P n,gH n)) && aG0 (mO n) (0,[]))=true:=by kernel_rfl
theorem aHe{n:Nat}(h6:n≤6):aHs (mO n) ([],[],[])=(mO n,t0P n,gH n)∧aG0 (mO n) (0,[])=true:=by
 have a:=List.all_eq_true.mp aJk n (List.mem_range.mpr (by omega))
 simpa using a
theorem aFu{n:Nat}(h1:1≤n)(h6:n≤6)(k:Nat):∃x,look (gH n) [tC n k]=some x:=⟨_,(x9 h1 h6 k).2.1⟩
def aGQ(f:Nat)(s:PS)(ks:List K)(s':PS):Prop:=∃f',F3 f s=F3 f' s'∧Kd s'.ts ks∧s'.ts.size<f'
theorem G8{f:Nat}{s s1:PS}{w:List UInt8}{m:Nat}{r:Toks}{ks}(hts:s.ts = .wd w m r)(hf:s.ts.size<f)(h:o7 s w m r = .inl s1)(hk:Kd s1.ts ks):aGQ f s ks s1:=by
 match f,hf with
 | f+1,hf =>
  have hz:=wF h
  rw[hts]at hf
  simp only[Toks.size]at hf
  exact⟨f,by simp only[F3,hts,h],hk,by omega⟩
def trV(n:Nat)(tr:List Int):Nat→List Int
 | 0=>t0P n
 | k+1=>(trV n tr k).set k (((tr.getD k 0).toNat % n:Nat):Int)
def ruV(n:Nat)(l:List PR):Nat→RL
 | 0=>[]
 | k+1=>ruV n l k++[(Int.tmod (l.getD k sE).1 3,U2 n (b8 n) (gH n) (zQ (l.getD k sE).2.1),U2 n (b8 n) (gH n) (zQ (l.getD k sE).2.2))]
def jnV(n:Nat)(j:Int):Int:=aEv (gH n) (fA n j.toNat n) 0
def plV(l:List PR):Nat→Int
 | 0=>0
 | k+1=>plV l k+(lvO (zQ (l.getD k sE).2.1):Nat)+(lvO (zQ (l.getD k sE).2.2):Nat)
theorem aAn(l:List Int):lvO (zQ l)≤8:=by
 unfold zQ
 split
 ·exact Nat.zero_le _
 ·exact Nat.le_trans (Ex.lv_le _) (Nat.le_trans (Nat.pow_le_pow_right (by decide) (yO 3 _ _)) (by decide))
theorem aA3:∀e:Ex,e.br≤e.D
 | .star a=>by have:=aA3 a;simp only[Ex.br,Ex.D];omega
 | .plus a=>by have:=aA3 a;simp only[Ex.br,Ex.D];omega
 | .opt a=>by have:=aA3 a;simp only[Ex.br,Ex.D];omega
 | .alt a b=>by have:=aA3 a;have:=aA3 b;simp only[Ex.br,Ex.D];omega
 | .seq a b=>by have:=aA3 a;have:=aA3 b;simp only[Ex.br,Ex.D];omega
 | .set _ _=>Nat.zero_le _
 | .any=>Nat.zero_le _
 | .nm _=>Nat.zero_le _
theorem aGl(l:List Int):brO (zQ l)≤16:=by
 unfold zQ
 split
 ·exact Nat.zero_le _
 ·exact Nat.le_trans (aA3 _) (Nat.le_trans (yO 3 _ _) (by decide))
theorem aFx(l:List PR):∀k,0≤plV l k∧plV l k≤16*(k:Int)
 | 0=>⟨Int.le_refl _,Int.le_refl _⟩
 | k+1=>by
  have h:=aFx l k
  have h1:=aAn (l.getD k sE).2.1
  have h2:=aAn (l.getD k sE).2.2
  simp only[plV]
  omega
theorem aDY(n:Nat)(tr:List Int):∀k,(trV n tr k).length=n
 | 0=>by simp[trV,t0P]
 | k+1=>by simp only[trV,List.length_set];exact aDY n tr k
theorem aAM(n:Nat)(l:List PR):∀k,(ruV n l k).length=k
 | 0=>rfl
 | k+1=>by simp only[ruV,List.length_append,List.length_singleton,aAM n l k]
theorem aHU{d:Int}(h:0≤d):does? (uO d)=some (Int.tmod d 3)∧uO d≠[99,108,97,115,115]∧uO d≠[115,101,116]∧uO d≠[106,111,105,110]∧uO d≠[116,114,101,97,116]:=by
 obtain⟨m,rfl⟩:=Int.eq_ofNat_of_zero_le h
 have e:Int.tmod ((m:Nat):Int) (3:Int)=((m % 3:Nat):Int):=rfl
 unfold uO
 rw[e,Int.toNat_natCast]
 have hm:m % 3<3:=Nat.mod_lt _ (by decide)
 generalize m % 3=k at hm
 match k,hm with
 | 0,_=>exact⟨rfl,by decide,by decide,by decide,by decide⟩
 | 1,_=>exact⟨rfl,by decide,by decide,by decide,by decide⟩
 | 2,_=>exact⟨rfl,by decide,by decide,by decide,by decide⟩
section
variable{n:Nat}(h1:1≤n)(h6:n≤6)
include h1 h6
omit h1 in
theorem aHE{f:Nat}{ts:Toks}{ks}(h:Kd ts (V8 n++ks))(hf:ts.size<f):∃r,aGQ f (Q9 ts) ks ⟨r,mO n,0,0,t0P n,[],gH n,0⟩:=by
 obtain⟨m,r,rfl,h2⟩:=Kd.wd (show Kd ts (.w [99,108,97,115,115]::((mO n).map .w ++ .s 59::ks))from by simpa [V8,mO]using h)
 obtain⟨c1,c2⟩:=aHe h6
 obtain⟨r1,h3,h4⟩:=W1 (mO n) (f:=r.size+1) (cls:=[]) (tr:=[]) (sets:=[]) h2 (by omega) c2
 refine⟨r1,G8 rfl hf ?_ h4⟩
 rw[c1]at h3
 have h3':lQ (r.size+1) r (Q9 (.wd [99,108,97,115,115] m r)).cls (Q9 (.wd [99,108,97,115,115] m r)).treat (Q9 (.wd [99,108,97,115,115] m r)).sets=_:=h3
 unfold o7
 rw[if_pos rfl,h3']
 rfl
theorem aHA{f:Nat}{ts:Toks}{j a:Int}{ks}(h:Kd ts (aBL n j a++ks))(hf:ts.size<f):∃r,aGQ f ⟨ts,mO n,0,0,t0P n,[],gH n,0⟩ ks ⟨r,mO n,if j=0 then 0 else aO .or .u32 0 (jnV n j),if j=0 then 0 else aO .or .u32 0 (jnV n a),t0P n,[],gH n,0⟩:=by
 unfold aBL at h
 by_cases hj:j=0
 ·rw[if_pos hj]at h
  rw[if_pos hj,if_pos hj]
  exact⟨ts,f,rfl,h,hf⟩
 ·rw[if_neg hj]at h
  rw[if_neg hj,if_neg hj]
  obtain⟨m,r,rfl,h2⟩:=Kd.wd (show Kd ts (.w [106,111,105,110]::((fA n j.toNat n).map .w ++ .s 47::((fA n a.toNat n).map .w ++ .s 59::ks)))from by simpa using h)
  have kn:∀b,∀w∈fA n b n,∃x,look (gH n) w=some x:=fun b w hw=>by
   obtain⟨i,rfl⟩:=wC hw
   exact aFu h1 h6 i
  obtain⟨r1,h3,h4⟩:=tZ (b:=0) (fA n j.toNat n) h2 (kn _)
  obtain⟨r2,h5,h7⟩:=tZ (b:=0) (fA n a.toNat n) h4 (kn _)
  refine⟨r2,G8 rfl hf ?_ h7⟩
  unfold o7
  rw[if_neg (by decide),if_neg (by decide),if_pos rfl]
  simp only[E3,h3,h5]
  rfl
theorem aIu{f:Nat}{tr:List Int}{ts:Toks}{jn an:Int}(hf:ts.size<f):∀(k:Nat) {ks},k≤n→Kd ts (trK n tr k++ks)→∃r,aGQ f ⟨ts,mO n,jn,an,t0P n,[],gH n,0⟩ ks ⟨r,mO n,jn,an,trV n tr k,[],gH n,0⟩
 | 0,ks,_,h=>⟨ts,f,rfl,h,hf⟩
 | k+1,ks,hk,h=>by
  simp only[trK,List.append_assoc,List.cons_append,List.nil_append]at h
  obtain⟨r,f1,e1,h2,h3⟩:=aIu (jn:=jn) (an:=an) hf k (by omega) h
  obtain⟨m1,r1,e2,h4⟩:=Kd.wd h2
  obtain⟨m2,r2,rfl,h5⟩:=Kd.wd (show Kd r1 (.w [tC n k]::_)from h4)
  obtain⟨m3,r3,rfl,h7⟩:=Kd.sg h5
  obtain⟨m4,r4,rfl,h8⟩:=Kd.wd (show Kd r3 (.w [tC n (tr.getD k 0).toNat]::_)from h7)
  obtain⟨m5,r5,rfl,h9⟩:=Kd.sg h8
  obtain⟨p1,_,p3⟩:=x9 h1 h6 k
  obtain⟨q1,_,_⟩:=x9 h1 h6 (tr.getD k 0).toNat
  have hkm:k % n=k:=Nat.mod_eq_of_lt (by omega)
  have hvm:(tr.getD k 0).toNat % n<n:=Nat.mod_lt _ (by omega)
  have o1:wK (mO n) (.wd [tC n k] m2 (.sg 61 m3 (.wd [tC n (tr.getD k 0).toNat] m4 (.sg 59 m5 r5)))) = .inl ((k:Int),.sg 61 m3 (.wd [tC n (tr.getD k 0).toNat] m4 (.sg 59 m5 r5))):=by
   simp only[wK,jZ,p1,p3,hkm]
   rw[if_pos (by omega)]
  have o2:wK (mO n) (.wd [tC n (tr.getD k 0).toNat] m4 (.sg 59 m5 r5)) = .inl ((((tr.getD k 0).toNat % n:Nat):Int),.sg 59 m5 r5):=by
   simp only[wK,jZ,q1,p3]
   rw[if_pos hvm]
  obtain⟨f2,e3,h10,h11⟩:=G8 (s1:=⟨r5,mO n,jn,an,trV n tr (k+1),[],gH n,0⟩) (ks:=ks) e2 h3 (by
   unfold o7
   rw[if_neg (by decide),if_neg (by decide),if_neg (by decide),if_pos rfl]
   simp only[sZ,o1,mH,if_true,o2]
   simp only[trV,Int.toNat_natCast]) h9
  exact⟨r5,f2,e1.trans e3,h10,h11⟩
theorem aIw{f:Nat}{l:List PR}{ts:Toks}{jn an:Int}{tv:List Int}(hf:ts.size<f)(hl:∀x∈l,0≤x.1):∀(k:Nat) {ks},k≤l.length→k≤10→Kd ts (ruK n l k++ks)→∃r,aGQ f ⟨ts,mO n,jn,an,tv,[],gH n,0⟩ ks ⟨r,mO n,jn,an,tv,ruV n l k,gH n,plV l k⟩
 | 0,ks,_,_,h=>⟨ts,f,rfl,h,hf⟩
 | k+1,ks,hk,h10,h=>by
  simp only[ruK,List.append_assoc,List.cons_append,List.nil_append]at h
  obtain⟨r,f1,e1,h2,h3⟩:=aIw (jn:=jn) (an:=an) (tv:=tv) hf hl k (by omega) (by omega) h
  obtain⟨m1,r1,e2,h4⟩:=Kd.wd h2
  obtain⟨d1,d2,d3,d4,d5⟩:=aHU (hl _ (cS (d:=sE) (show k<l.length by omega)))
  have hp:=aFx l k
  have v1:=aAn (l.getD k sE).2.1
  have v2:=aAn (l.getD k sE).2.2
  have hcl:(mO n).length=n:=(x9 h1 h6 0).2.2
  obtain⟨r2,x1,x2⟩:=R1 (wh:=b8 n) (aFu h1 h6) (zQ (l.getD k sE).2.1) (aGl _) h4 (by decide) (by decide) (by decide) hp.1 (by omega)
  obtain⟨m2,r3,rfl,x3⟩:=Kd.sg x2
  obtain⟨r4,y1,y2⟩:=R1 (wh:=b8 n) (aFu h1 h6) (zQ (l.getD k sE).2.2) (aGl _) x3 (by decide) (by decide) (by decide) (show 0≤plV l k+(lvO (zQ (l.getD k sE).2.1):Nat) by omega) (by omega)
  obtain⟨m3,r5,rfl,y3⟩:=Kd.sg y2
  obtain⟨f2,e3,g1,g2⟩:=G8 (s1:=⟨r5,mO n,jn,an,tv,ruV n l (k+1),gH n,plV l (k+1)⟩) (ks:=ks) e2 h3 (by
   unfold o7
   rw[if_neg d2,if_neg d3,if_neg d4,if_neg d5,d1]
   simp only[uB,hcl]
   rw[if_neg (by rw[aAM];omega)]
   simp only[x1,mH,if_true,y1]
   rfl) y3
  exact⟨r5,f2,e1.trans e3,g1,g2⟩
end
def tF(c j a:Int)(tr:List Int)(l:List PR):List (List UInt8)×Int×Int×List Int×RL :=
 (mO (cC c),if j=0 then 0 else aO .or .u32 0 (jnV (cC c) j),if j=0 then 0 else aO .or .u32 0 (jnV (cC c) a),trV (cC c) tr (min tr.length (cC c)),ruV (cC c) l (min l.length 10))
theorem O0{c j a:Int}{tr:List Int}{l:List PR}(h:Pl c j a tr l){t:List UInt8}(ht:t.length≤4096)(hk:Kd (T t 0) (aBU c j a tr l)):zM t = .inl (tF c j a tr l):=by
 have h1:=tU c
 have h6:=uQ c
 have hz:=wP (t:=t) _ 0 (Nat.le_refl _) (by omega)
 unfold aBU at hk
 obtain⟨r1,f1,e1,k1,s1⟩:=aHE h6 (f:=t.length+1) hk (by omega)
 obtain⟨r2,f2,e2,k2,s2⟩:=aHA h1 h6 k1 s1
 obtain⟨r3,f3,e3,k3,s3⟩:=aIu h1 h6 s2 (min tr.length (cC c)) (Nat.min_le_right _ _) k2
 obtain⟨r4,f4,e4,k4,s4⟩:=aIw h1 h6 s3 (fun x hx=>(h.hl x hx).1.1) (min l.length 10) (ks:=[]) (Nat.min_le_left _ _) (Nat.min_le_right _ _) (by rw[List.append_nil];exact k3)
 obtain⟨m,hm⟩:=Kd.nil k4
 dsimp only at hm
 subst hm
 obtain⟨f5,rfl⟩:∃f5,f4=f5+1:=⟨f4 - 1,by omega⟩
 have hall:F3 (t.length+1) (Q9 (T t 0)) = .inl _:=((e1.trans e2).trans e3).trans (e4.trans rfl)
 unfold zM
 rw[if_neg (by omega),hall]
 rfl
end Go.Proofs.YtacpjjgochokcaaDoor.T
namespace Go.Proofs.YtacpjjgochokcaaDoor.T
open Go Go.Tv Go.Proofs
theorem aJN:wZ 3=99:=rfl
theorem W2{n:Nat}(h6:n≤6)(l:List Int):(aCr n (zQ l)).length≤99:=by
 unfold zQ
 split
 ·exact Nat.zero_le _
 ·exact Nat.le_trans (l7 h6 _) (Nat.le_trans (qH (yO 3 _ _)) (Nat.le_of_eq aJN))
theorem aGH{n:Nat}(h6:n≤6)(b:List UInt8)(l:List PR)(k:Nat):(ruT b n l k).length≤b.length+208*k:=by
 induction k with
 | zero=>exact Nat.le_refl _
 | succ k ih =>
  have h1:=zR (l.getD k sE).1
  have h2:=W2 h6 (l.getD k sE).2.1
  have h3:=W2 h6 (l.getD k sE).2.2
  simp only[ruT,List.length_append,List.length_cons,List.length_nil];omega
theorem O9(c j a:Int)(tr:List Int)(l:List PR):(D4 c j a tr l).length≤2300:=by
 have h6:=uQ c
 have h1:=X2 h6 j a
 have h2:=aAg (rD (cC c) j a) (cC c) tr (min tr.length (cC c))
 have h3:=aGH h6 (trT (rD (cC c) j a) (cC c) tr (min tr.length (cC c))) l (min l.length 10)
 unfold D4
 have h4:min l.length 10≤10:=Nat.min_le_right _ _
 have h5:min tr.length (cC c)≤cC c:=Nat.min_le_right _ _
 omega
theorem aCU{c j a:Int}{tr:List Int}{l:List PR}(h:Pl c j a tr l):jQ (D4 c j a tr l)=some (tF c j a tr l,0,0):=by
 rw[aJu,O0 h (Nat.le_trans (O9 c j a tr l) (by decide)) (aFz h)]
 rfl
theorem aHW{n k:Nat}(h:k<n):(t0P n).getD k 0=(k:Int):=by
 simp[t0P,h]
end Go.Proofs.YtacpjjgochokcaaDoor.T
namespace Go.Proofs.YtacpjjgochokcaaDoor.T
open Go Go.Tv Go.Proofs
theorem U32.wrap(x:Int):U32 (IntKind.u32.wrap x):=by
 have:IntKind.u32.wrap x=x % 4294967296:=by
  simp only[IntKind.wrap]
  rfl
 rw[this]
 exact⟨by omega,by omega⟩
theorem U32.zero:U32 0:=⟨by decide,by decide⟩
theorem U32.bits(op:BinOp)(x y:Int):U32 (aO op .u32 x y):=by
 unfold aO
 dsimp only
 split <;> exact U32.wrap _
theorem V2{α:Type}{K:Ty}{k:K.den}{v:α}:∀ {kv:List (K.den×α)},bM K kv k=some v→∃k',(k',v)∈kv
 | [],h=>by cases h
 | p::r,h=>by
  simp only[bM]at h
  split at h
  ·cases h;exact⟨p.1,.head _⟩
  ·obtain⟨k',h'⟩:=V2 h;exact⟨k',.tail _ h'⟩
theorem aKE(n:Nat)(w:List UInt8):U32 (nmV (gH n) w):=by
 unfold nmV
 cases h:look (gH n) w with
 | none=>exact⟨by decide,by decide⟩
 | some v =>
  obtain⟨w',hm⟩:=V2 h
  have:=(List.of_mem_zip hm).2
  simp only[List.mem_map]at this
  obtain⟨k,_,rfl⟩:=this
  exact U32.wrap _
theorem aFQ(n:Nat):∀(ws:List (List UInt8)) (b:Int),U32 b→U32 (aEv (gH n) ws b)
 | [],b,h=>h
 | w::ws,b,h=>aFQ n ws _ (U32.bits _ _ _)
theorem pG(l:List Tree):jV (lM l)=dX l:=by
 match l with
 | []=>simp[lM,jV,dX]
 | [x]=>simp[lM,dX]
 | x::y::r =>
  simp only[lM,jV]
  rw[if_neg (by decide)]
  rfl
theorem lN(n:Nat)(wh:Int)(sets:g7):∀e:Ex,dX (gN n wh sets e)=e.lv
 | .nm k=>by simp[gN,dX,jV,Ex.lv]
 | .any=>by simp[gN,dX,jV,Ex.lv]
 | .set neg b=>by simp[gN,dX,jV,Ex.lv]
 | .star a=>by simp[gN,dX,jV,xD,Ex.lv,pG,lN n wh sets a]
 | .plus a=>by simp[gN,dX,jV,xD,Ex.lv,pG,lN n wh sets a]
 | .opt a=>by simp[gN,dX,jV,xD,Ex.lv,pG,lN n wh sets a]
 | .alt a b=>by simp[gN,dX,jV,Ex.lv,pG,lN n wh sets a,lN n wh sets b]
 | .seq a b=>by simp[gN,jW,Ex.lv,lN n wh sets a,lN n wh sets b]
theorem uT{d:Nat}{l:List Tree}(hl:l.length≤1000)(h:∀t∈l,Tok d t):Tok (d+1) (lM l):=by
 match l with
 | []=>exact⟨U32.zero,by simp[lM,Tree.kids],fun k hk=>by simp[lM,Tree.kids]at hk⟩
 | [x]=>exact(h x (.head _)).mono (by omega)
 | x::y::r=>exact⟨U32.zero,hl,h⟩
theorem rN(n:Nat)(wh:Int)(sets:g7):∀e:Ex,(gN n wh sets e).length≤e.lv
 | .nm k=>by simp[gN,Ex.lv]
 | .any=>by simp[gN,Ex.lv]
 | .set neg b=>by simp[gN,Ex.lv]
 | .star a=>by have:=exTh_pos a;simp only[gN,Ex.lv,List.length_cons,List.length_nil];omega
 | .plus a=>by have:=exTh_pos a;simp only[gN,Ex.lv,List.length_cons,List.length_nil];omega
 | .opt a=>by have:=exTh_pos a;simp only[gN,Ex.lv,List.length_cons,List.length_nil];omega
 | .alt a b=>by have:=exTh_pos a;simp only[gN,Ex.lv,List.length_cons,List.length_nil];omega
 | .seq a b=>by have:=rN n wh sets a;have:=rN n wh sets b;simp only[gN,Ex.lv,List.length_append];omega
where exTh_pos:∀e:Ex,1≤e.lv
 | .nm _ | .any | .set _ _=>Nat.le_refl _
 | .star a | .plus a | .opt a=>exTh_pos a
 | .alt a _ | .seq a _=>by have:=exTh_pos a;simp only[Ex.lv];omega
theorem aHp{e:Ex}(h:e.D≤3):e.lv≤8:=Nat.le_trans (Ex.lv_le e) (Nat.le_trans (Nat.pow_le_pow_right (by decide) h) (by decide))
theorem aAS(n:Nat)(a:Ex){o:Int}{t:Tree}(h:a.D+1≤3)(ih:∀t∈gN n (b8 n) (gH n) a,Tok (2*a.D+1) t)(ht:t = .node o 0 [lM (gN n (b8 n) (gH n) a)]):Tok (2*(a.D+1)+1) t:=by
 subst ht
 have la:=Nat.le_trans (rN n (b8 n) (gH n) a) (aHp (show a.D≤3 by omega))
 have ha:=uT (by omega) ih
 refine⟨U32.zero,by simp[Tree.kids],fun k hk=> ?_⟩
 simp only[Tree.kids,List.mem_singleton]at hk
 subst hk
 exact ha.mono (by omega)
theorem nG(n:Nat):∀(e:Ex),e.D≤3→∀t∈gN n (b8 n) (gH n) e,Tok (2*e.D+1) t
 | .nm k,_,t,ht=>by
  simp only[gN,List.mem_singleton]at ht
  subst ht
  exact⟨aKE _ _,by simp[Tree.kids],fun k hk=>by simp[Tree.kids]at hk⟩
 | .any,_,t,ht=>by
  simp only[gN,List.mem_singleton]at ht
  subst ht
  exact⟨U32.wrap _,by simp[Tree.kids],fun k hk=>by simp[Tree.kids]at hk⟩
 | .set neg b,_,t,ht=>by
  simp only[gN,List.mem_singleton]at ht
  subst ht
  refine⟨?_,by simp[Tree.kids],fun k hk=>by simp[Tree.kids]at hk⟩
  simp only[Tree.set]
  split
  ·exact U32.bits _ _ _
  ·exact aFQ n _ _ ⟨by decide,by decide⟩
 | .star a,h,t,ht=>aAS n a (by simp only[Ex.D]at h;omega) (fun t h'=>nG n a (by simp only[Ex.D]at h;omega) t h') (o:=4) (by simpa only [gN,List.mem_singleton]using ht)
 | .plus a,h,t,ht=>aAS n a (by simp only[Ex.D]at h;omega) (fun t h'=>nG n a (by simp only[Ex.D]at h;omega) t h') (o:=5) (by simpa only [gN,List.mem_singleton]using ht)
 | .opt a,h,t,ht=>aAS n a (by simp only[Ex.D]at h;omega) (fun t h'=>nG n a (by simp only[Ex.D]at h;omega) t h') (o:=6) (by simpa only [gN,List.mem_singleton]using ht)
 | .alt a b,h,t,ht=>by
  simp only[gN,List.mem_singleton]at ht
  simp only[Ex.D]at h
  subst ht
  have la:=Nat.le_trans (rN n (b8 n) (gH n) a) (aHp (show a.D≤3 by omega))
  have lb:=Nat.le_trans (rN n (b8 n) (gH n) b) (aHp (show b.D≤3 by omega))
  have ha:=uT (by omega) (fun t h'=>nG n a (by omega) t h')
  have hb:=uT (by omega) (fun t h'=>nG n b (by omega) t h')
  refine⟨U32.zero,by simp[Tree.kids],fun k hk=> ?_⟩
  simp only[Tree.kids,List.mem_cons,List.not_mem_nil,or_false]at hk
  rcases hk with rfl | rfl
  ·exact ha.mono (by simp only[Ex.D];omega)
  ·exact hb.mono (by simp only[Ex.D];omega)
 | .seq a b,h,t,ht=>by
  simp only[gN,List.mem_append]at ht
  simp only[Ex.D]at h ⊢
  rcases ht with ht | ht
  ·exact(nG n a (by omega) t ht).mono (by omega)
  ·exact(nG n b (by omega) t ht).mono (by omega)
theorem aDn(n:Nat)(l:List Int):Tok 8 (U2 n (b8 n) (gH n) (zQ l))∧jV (U2 n (b8 n) (gH n) (zQ l))≤8:=by
 unfold zQ
 split
 ·exact⟨⟨U32.zero,by simp[U2,Tree.kids],fun k hk=>by simp[U2,Tree.kids]at hk⟩,by simp[U2,jV]⟩
 ·have hD:=yO 3 (l.take 30) 0
  have hlv:=aHp hD
  have hlen:=Nat.le_trans (rN n (b8 n) (gH n) _) hlv
  simp only[U2]
  refine⟨(uT (by omega) (nG n _ hD)).mono (by omega),?_⟩
  rw[pG,lN]
  exact hlv
def pX(r:RL):List Tree:=r.flatMap fun x=>[x.2.1,x.2.2]
theorem aCL(r:RL)(y):pX (r++[y])=pX r++[y.2.1,y.2.2]:=by simp[pX]
theorem aDX(n:Nat)(l:List PR):∀k,(pX (ruV n l k)).length=2*k∧(∀t∈pX (ruV n l k),Tok 8 t)∧dX (pX (ruV n l k))≤16*k
 | 0=>⟨rfl,fun t ht=>by simp[ruV,pX]at ht,by simp[ruV,pX,dX]⟩
 | k+1=>by
  obtain⟨h1,h2,h3⟩:=aDX n l k
  have ha:=aDn n (l.getD k sE).2.1
  have hb:=aDn n (l.getD k sE).2.2
  simp only[ruV,aCL]
  refine⟨by simp[h1];omega,fun t ht=> ?_,?_⟩
  ·simp only[List.mem_append,List.mem_cons,List.not_mem_nil,or_false]at ht
   rcases ht with ht | rfl | rfl
   ·exact h2 t ht
   ·exact ha.1
   ·exact hb.1
  ·rw[jW]
   simp only[dX]
   have:=ha.2
   have:=hb.2
   omega
end Go.Proofs.YtacpjjgochokcaaDoor.T
