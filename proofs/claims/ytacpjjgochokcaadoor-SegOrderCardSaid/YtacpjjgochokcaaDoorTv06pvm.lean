/- What a plan's pieces say: lines. -/
import Derived.Test.YtacpjjgochokcaaDoorTv06ptm
import Derived.Test.YtacpjjgochokcaaDoorTv06pi
import Derived.Test.YtacpjjgochokcaaDoorTv06ardm
namespace Go.Proofs.YtacpjjgochokcaaDoor.T
open Go Go.Tv Go.Proofs
def lK(n:Nat):List (List UInt8):=eS n 255 n
def fA(n:Nat):gJ:=(lK n).zip ((List.range n).map P9)
def t0P(n:Nat):List Int:=(List.range n).map (fun(k:Nat)=>(k:Int))
theorem aGR(n k:Nat):tR n k=tR n (k % n):=by unfold tR;rw[Nat.mod_mod]
theorem aFY:((List.range 7).all fun n=>(List.range n).all fun m=>(cJ (lK n) [tR n m] == m) && (look (fA n) [tR n m] == some (P9 m)) && ((lK n).length == n))=true:=by kernel_rfl
theorem xN{n:Nat}(h1:1≤n)(h6:n≤6)(k:Nat):cJ (lK n) [tR n k]=k % n∧look (fA n) [tR n k]=some (P9 (k % n))∧(lK n).length=n:=by
 have a:=List.all_eq_true.mp aFY n (List.mem_range.mpr (by omega))
 have b:=List.all_eq_true.mp a (k % n) (List.mem_range.mpr (Nat.mod_lt _ (by omega)))
 simp only[Bool.and_eq_true,beq_iff_eq]at b
 rw[aGR]
 exact⟨b.1.1,b.1.2,b.2⟩
def aGY:List (List UInt8)→List (List UInt8)×List Int×gJ→List (List UInt8)×List Int×gJ
 | [],s=>s
 | w::ws,s=>aGY ws (s.1++[w],s.2.1++[(s.1.length:Int)],s.2.2++[(w,P9 s.1.length)])
def aFN:List (List UInt8)→Nat×gJ→Bool
 | [],_=>true
 | w::ws,s=>(look s.2 w).isNone && decide (s.1<24) && aFN ws (s.1+1,s.2++[(w,P9 s.1)])
theorem U2:∀(ws:List (List UInt8)) {f:Nat} {ts:Toks} {cls tr sets ks},Kd ts (ws.map .w ++ .s 59::ks)→ts.size<f→aFN ws (cls.length,sets)=true →
  ∃r,kZ f ts cls tr sets = .inl (r,(aGY ws (cls,tr,sets)))∧Kd r ks
 | [],f,ts,cls,tr,sets,ks,h,hf,hF=>by
  obtain⟨n,r,rfl,h2⟩:=Kd.sg h
  match f,hf with
  | f+1,_=>exact⟨r,by simp only[kZ,bF,if_true];rfl,h2⟩
 | w::ws,f,ts,cls,tr,sets,ks,h,hf,hF=>by
  obtain⟨n,r,rfl,h2⟩:=Kd.wd (show Kd ts (.w w::(ws.map .w ++ .s 59::ks))from h)
  simp only[aFN,Bool.and_eq_true,Option.isNone_iff_eq_none,decide_eq_true_eq]at hF
  obtain⟨⟨g1,g2⟩,g3⟩:=hF
  match f,hf with
  | f+1,hf =>
   simp only[Toks.size]at hf
   obtain⟨r',h3,h4⟩:=U2 ws (f:=f) (cls:=cls++[w]) (tr:=tr++[(cls.length:Int)]) (sets:=sets++[(w,P9 cls.length)]) h2 (by omega) (by simpa using g3)
   refine⟨r',?_,h4⟩
   have s1:bF 59 (.wd w n r) = .inl (false,.wd w n r):=rfl
   have s2:jS sets (.wd w n r) = .inl (w,n,r):=by simp only[jS,iX,g1]
   simp only[kZ,s1,s2]
   rw[if_neg (by omega),h3]
   rfl
theorem aH4:((List.range 7).all fun n=>decide (aGY (lK n) ([],[],[])=(lK n,t0P n,fA n)) && aFN (lK n) (0,[]))=true:=by kernel_rfl
theorem aGJ{n:Nat}(h6:n≤6):aGY (lK n) ([],[],[])=(lK n,t0P n,fA n)∧aFN (lK n) (0,[])=true:=by
 have a:=List.all_eq_true.mp aH4 n (List.mem_range.mpr (by omega))
 simpa using a
theorem aEB{n:Nat}(h1:1≤n)(h6:n≤6)(k:Nat):∃x,look (fA n) [tR n k]=some x:=⟨_,(xN h1 h6 k).2.1⟩
def aEI(f:Nat)(s:PS)(ks:List K)(s':PS):Prop:=∃f',C7 f s=C7 f' s'∧Kd s'.ts ks∧s'.ts.size<f'
theorem D6{f:Nat}{s s1:PS}{w:List UInt8}{m:Nat}{r:Toks}{ks}(hts:s.ts = .wd w m r)(hf:s.ts.size<f)(h:oJ s w m r = .inl s1)(hk:Kd s1.ts ks):aEI f s ks s1:=by
 match f,hf with
 | f+1,hf =>
  have hz:=vD h
  rw[hts]at hf
  simp only[Toks.size]at hf
  exact⟨f,by simp only[C7,hts,h],hk,by omega⟩
def trV(n:Nat)(tr:List Int):Nat→List Int
 | 0=>t0P n
 | k+1=>(trV n tr k).set k (((tr.getD k 0).toNat % n:Nat):Int)
def S0(n:Nat)(l:List PR):Nat→RL
 | 0=>[]
 | k+1=>S0 n l k++[(Int.tmod (l.getD k qS).1 3,zB n (bR n) (fA n) (wI (l.getD k qS).2.1),zB n (bR n) (fA n) (wI (l.getD k qS).2.2))]
def jnV(n:Nat)(j:Int):Int:=aDN (fA n) (eS n j.toNat n) 0
def plV(l:List PR):Nat→Int
 | 0=>0
 | k+1=>plV l k+(lvO (wI (l.getD k qS).2.1):Nat)+(lvO (wI (l.getD k qS).2.2):Nat)
theorem Z1(l:List Int):lvO (wI l)≤8:=by
 unfold wI
 split
 ·exact Nat.zero_le _
 ·exact Nat.le_trans (Ex.lv_le _) (Nat.le_trans (Nat.pow_le_pow_right (by decide) (wY 3 _ _)) (by decide))
theorem aAM:∀e:Ex,e.br≤e.D
 | .star a=>by have:=aAM a;simp only[Ex.br,Ex.D];omega
 | .plus a=>by have:=aAM a;simp only[Ex.br,Ex.D];omega
 | .opt a=>by have:=aAM a;simp only[Ex.br,Ex.D];omega
 | .alt a b=>by have:=aAM a;have:=aAM b;simp only[Ex.br,Ex.D];omega
 | .seq a b=>by have:=aAM a;have:=aAM b;simp only[Ex.br,Ex.D];omega
 | .set _ _=>Nat.zero_le _
 | .any=>Nat.zero_le _
 | .nm _=>Nat.zero_le _
theorem aF1(l:List Int):brO (wI l)≤16:=by
 unfold wI
 split
 ·exact Nat.zero_le _
 ·exact Nat.le_trans (aAM _) (Nat.le_trans (wY 3 _ _) (by decide))
theorem aE5(l:List PR):∀k,0≤plV l k∧plV l k≤16*(k:Int)
 | 0=>⟨Int.le_refl _,Int.le_refl _⟩
 | k+1=>by
  have h:=aE5 l k
  have h1:=Z1 (l.getD k qS).2.1
  have h2:=Z1 (l.getD k qS).2.2
  simp only[plV]
  omega
theorem aC7(n:Nat)(tr:List Int):∀k,(trV n tr k).length=n
 | 0=>by simp[trV,t0P]
 | k+1=>by simp only[trV,List.length_set];exact aC7 n tr k
theorem Z3(n:Nat)(l:List PR):∀k,(S0 n l k).length=k
 | 0=>rfl
 | k+1=>by simp only[S0,List.length_append,List.length_singleton,Z3 n l k]
theorem aG1{d:Int}(h:0≤d):does? (rX d)=some (Int.tmod d 3)∧rX d≠[99,108,97,115,115]∧rX d≠[115,101,116]∧rX d≠[106,111,105,110]∧rX d≠[116,114,101,97,116]:=by
 obtain⟨m,rfl⟩:=Int.eq_ofNat_of_zero_le h
 have e:Int.tmod ((m:Nat):Int) (3:Int)=((m % 3:Nat):Int):=rfl
 unfold rX
 rw[e,Int.toNat_natCast]
 have hm:m % 3<3:=Nat.mod_lt _ (by decide)
 generalize m % 3=k at hm
 match k,hm with
 | 0,_=>exact⟨rfl,by decide,by decide,by decide,by decide⟩
 | 1,_=>exact⟨rfl,by decide,by decide,by decide,by decide⟩
 | 2,_=>exact⟨rfl,by decide,by decide,by decide,by decide⟩
section
variable{n:Nat}(h1:1≤n)(h6:n≤6)
include h1 h6
omit h1 in
theorem aG2{f:Nat}{ts:Toks}{ks}(h:Kd ts (S7 n++ks))(hf:ts.size<f):∃r,aEI f (K8 ts) ks ⟨r,lK n,0,0,t0P n,[],fA n,0⟩:=by
 obtain⟨m,r,rfl,h2⟩:=Kd.wd (show Kd ts (.w [99,108,97,115,115]::((lK n).map .w ++ .s 59::ks))from by simpa [S7,lK]using h)
 obtain⟨c1,c2⟩:=aGJ h6
 obtain⟨r1,h3,h4⟩:=U2 (lK n) (f:=r.size+1) (cls:=[]) (tr:=[]) (sets:=[]) h2 (by omega) c2
 refine⟨r1,D6 rfl hf ?_ h4⟩
 rw[c1]at h3
 have h3':kZ (r.size+1) r (K8 (.wd [99,108,97,115,115] m r)).cls (K8 (.wd [99,108,97,115,115] m r)).treat (K8 (.wd [99,108,97,115,115] m r)).sets=_:=h3
 unfold oJ
 rw[if_pos rfl,h3']
 rfl
theorem aHd{f:Nat}{ts:Toks}{j a:Int}{ks}(h:Kd ts (aBu n j a++ks))(hf:ts.size<f):∃r,aEI f ⟨ts,lK n,0,0,t0P n,[],fA n,0⟩ ks ⟨r,lK n,if j=0 then 0 else aJ .or .u32 0 (jnV n j),if j=0 then 0 else aJ .or .u32 0 (jnV n a),t0P n,[],fA n,0⟩:=by
 unfold aBu at h
 by_cases hj:j=0
 ·rw[if_pos hj]at h
  rw[if_pos hj,if_pos hj]
  exact⟨ts,f,rfl,h,hf⟩
 ·rw[if_neg hj]at h
  rw[if_neg hj,if_neg hj]
  obtain⟨m,r,rfl,h2⟩:=Kd.wd (show Kd ts (.w [106,111,105,110]::((eS n j.toNat n).map .w ++ .s 47::((eS n a.toNat n).map .w ++ .s 59::ks)))from by simpa using h)
  have kn:∀b,∀w∈eS n b n,∃x,look (fA n) w=some x:=fun b w hw=>by
   obtain⟨i,rfl⟩:=vJ hw
   exact aEB h1 h6 i
  obtain⟨r1,h3,h4⟩:=tW (b:=0) (eS n j.toNat n) h2 (kn _)
  obtain⟨r2,h5,h7⟩:=tW (b:=0) (eS n a.toNat n) h4 (kn _)
  refine⟨r2,D6 rfl hf ?_ h7⟩
  unfold oJ
  rw[if_neg (by decide),if_neg (by decide),if_pos rfl]
  simp only[B9,h3,h5]
  rfl
theorem aHN{f:Nat}{tr:List Int}{ts:Toks}{jn an:Int}(hf:ts.size<f):∀(k:Nat) {ks},k≤n→Kd ts (trK n tr k++ks)→∃r,aEI f ⟨ts,lK n,jn,an,t0P n,[],fA n,0⟩ ks ⟨r,lK n,jn,an,trV n tr k,[],fA n,0⟩
 | 0,ks,_,h=>⟨ts,f,rfl,h,hf⟩
 | k+1,ks,hk,h=>by
  simp only[trK,List.append_assoc,List.cons_append,List.nil_append]at h
  obtain⟨r,f1,e1,h2,h3⟩:=aHN (jn:=jn) (an:=an) hf k (by omega) h
  obtain⟨m1,r1,e2,h4⟩:=Kd.wd h2
  obtain⟨m2,r2,rfl,h5⟩:=Kd.wd (show Kd r1 (.w [tR n k]::_)from h4)
  obtain⟨m3,r3,rfl,h7⟩:=Kd.sg h5
  obtain⟨m4,r4,rfl,h8⟩:=Kd.wd (show Kd r3 (.w [tR n (tr.getD k 0).toNat]::_)from h7)
  obtain⟨m5,r5,rfl,h9⟩:=Kd.sg h8
  obtain⟨p1,_,p3⟩:=xN h1 h6 k
  obtain⟨q1,_,_⟩:=xN h1 h6 (tr.getD k 0).toNat
  have hkm:k % n=k:=Nat.mod_eq_of_lt (by omega)
  have hvm:(tr.getD k 0).toNat % n<n:=Nat.mod_lt _ (by omega)
  have o1:vS (lK n) (.wd [tR n k] m2 (.sg 61 m3 (.wd [tR n (tr.getD k 0).toNat] m4 (.sg 59 m5 r5)))) = .inl ((k:Int),.sg 61 m3 (.wd [tR n (tr.getD k 0).toNat] m4 (.sg 59 m5 r5))):=by
   simp only[vS,iX,p1,p3,hkm]
   rw[if_pos (by omega)]
  have o2:vS (lK n) (.wd [tR n (tr.getD k 0).toNat] m4 (.sg 59 m5 r5)) = .inl ((((tr.getD k 0).toNat % n:Nat):Int),.sg 59 m5 r5):=by
   simp only[vS,iX,q1,p3]
   rw[if_pos hvm]
  obtain⟨f2,e3,h10,h11⟩:=D6 (s1:=⟨r5,lK n,jn,an,trV n tr (k+1),[],fA n,0⟩) (ks:=ks) e2 h3 (by
   unfold oJ
   rw[if_neg (by decide),if_neg (by decide),if_neg (by decide),if_pos rfl]
   simp only[sZ,o1,lL,if_true,o2]
   simp only[trV,Int.toNat_natCast]) h9
  exact⟨r5,f2,e1.trans e3,h10,h11⟩
theorem aHx{f:Nat}{l:List PR}{ts:Toks}{jn an:Int}{tv:List Int}(hf:ts.size<f)(hl:∀x∈l,0≤x.1):∀(k:Nat) {ks},k≤l.length→k≤10→Kd ts (ruK n l k++ks)→∃r,aEI f ⟨ts,lK n,jn,an,tv,[],fA n,0⟩ ks ⟨r,lK n,jn,an,tv,S0 n l k,fA n,plV l k⟩
 | 0,ks,_,_,h=>⟨ts,f,rfl,h,hf⟩
 | k+1,ks,hk,h10,h=>by
  simp only[ruK,List.append_assoc,List.cons_append,List.nil_append]at h
  obtain⟨r,f1,e1,h2,h3⟩:=aHx (jn:=jn) (an:=an) (tv:=tv) hf hl k (by omega) (by omega) h
  obtain⟨m1,r1,e2,h4⟩:=Kd.wd h2
  obtain⟨d1,d2,d3,d4,d5⟩:=aG1 (hl _ (d9 (d:=qS) (show k<l.length by omega)))
  have hp:=aE5 l k
  have v1:=Z1 (l.getD k qS).2.1
  have v2:=Z1 (l.getD k qS).2.2
  have hcl:(lK n).length=n:=(xN h1 h6 0).2.2
  obtain⟨r2,x1,x2⟩:=I4 (wh:=bR n) (aEB h1 h6) (wI (l.getD k qS).2.1) (aF1 _) h4 (by decide) (by decide) (by decide) hp.1 (by omega)
  obtain⟨m2,r3,rfl,x3⟩:=Kd.sg x2
  obtain⟨r4,y1,y2⟩:=I4 (wh:=bR n) (aEB h1 h6) (wI (l.getD k qS).2.2) (aF1 _) x3 (by decide) (by decide) (by decide) (show 0≤plV l k+(lvO (wI (l.getD k qS).2.1):Nat) by omega) (by omega)
  obtain⟨m3,r5,rfl,y3⟩:=Kd.sg y2
  obtain⟨f2,e3,g1,g2⟩:=D6 (s1:=⟨r5,lK n,jn,an,tv,S0 n l (k+1),fA n,plV l (k+1)⟩) (ks:=ks) e2 h3 (by
   unfold oJ
   rw[if_neg d2,if_neg d3,if_neg d4,if_neg d5,d1]
   simp only[sV,hcl]
   rw[if_neg (by rw[Z3];omega)]
   simp only[x1,lL,if_true,y1]
   rfl) y3
  exact⟨r5,f2,e1.trans e3,g1,g2⟩
end
def mM(c j a:Int)(tr:List Int)(l:List PR):List (List UInt8)×Int×Int×List Int×RL :=
 (lK (bN c),if j=0 then 0 else aJ .or .u32 0 (jnV (bN c) j),if j=0 then 0 else aJ .or .u32 0 (jnV (bN c) a),trV (bN c) tr (min tr.length (bN c)),S0 (bN c) l (min l.length 10))
theorem J1{c j a:Int}{tr:List Int}{l:List PR}(h:Pl c j a tr l){t:List UInt8}(ht:t.length≤4096)(hk:Kd (T t 0) (aBk c j a tr l)):yH t = .inl (mM c j a tr l):=by
 have h1:=tE c
 have h6:=tY c
 have hz:=vG (t:=t) _ 0 (Nat.le_refl _) (by omega)
 unfold aBk at hk
 obtain⟨r1,f1,e1,k1,s1⟩:=aG2 h6 (f:=t.length+1) hk (by omega)
 obtain⟨r2,f2,e2,k2,s2⟩:=aHd h1 h6 k1 s1
 obtain⟨r3,f3,e3,k3,s3⟩:=aHN h1 h6 s2 (min tr.length (bN c)) (Nat.min_le_right _ _) k2
 obtain⟨r4,f4,e4,k4,s4⟩:=aHx h1 h6 s3 (fun x hx=>(h.hl x hx).1.1) (min l.length 10) (ks:=[]) (Nat.min_le_left _ _) (Nat.min_le_right _ _) (by rw[List.append_nil];exact k3)
 obtain⟨m,hm⟩:=Kd.nil k4
 dsimp only at hm
 subst hm
 obtain⟨f5,rfl⟩:∃f5,f4=f5+1:=⟨f4 - 1,by omega⟩
 have hall:C7 (t.length+1) (K8 (T t 0)) = .inl _:=((e1.trans e2).trans e3).trans (e4.trans rfl)
 unfold yH
 rw[if_neg (by omega),hall]
 rfl
end Go.Proofs.YtacpjjgochokcaaDoor.T
namespace Go.Proofs.YtacpjjgochokcaaDoor.T
open Go Go.Tv Go.Proofs
theorem aJZ:vV 3=99:=rfl
theorem U8{n:Nat}(h6:n≤6)(l:List Int):(aCr n (wI l)).length≤99:=by
 unfold wI
 split
 ·exact Nat.zero_le _
 ·exact Nat.le_trans (lJ h6 _) (Nat.le_trans (pI (wY 3 _ _)) (Nat.le_of_eq aJZ))
theorem aE4{n:Nat}(h6:n≤6)(b:List UInt8)(l:List PR)(k:Nat):(ruT b n l k).length≤b.length+208*k:=by
 induction k with
 | zero=>exact Nat.le_refl _
 | succ k ih =>
  have h1:=yL (l.getD k qS).1
  have h2:=U8 h6 (l.getD k qS).2.1
  have h3:=U8 h6 (l.getD k qS).2.2
  simp only[ruT,List.length_append,List.length_cons,List.length_nil];omega
theorem I5(c j a:Int)(tr:List Int)(l:List PR):(B7 c j a tr l).length≤2300:=by
 have h6:=tY c
 have h1:=Q9 h6 j a
 have h2:=W9 (pZ (bN c) j a) (bN c) tr (min tr.length (bN c))
 have h3:=aE4 h6 (trT (pZ (bN c) j a) (bN c) tr (min tr.length (bN c))) l (min l.length 10)
 unfold B7
 have h4:min l.length 10≤10:=Nat.min_le_right _ _
 have h5:min tr.length (bN c)≤bN c:=Nat.min_le_right _ _
 omega
theorem aBU{c j a:Int}{tr:List Int}{l:List PR}(h:Pl c j a tr l):i6 (B7 c j a tr l)=some (mM c j a tr l,0,0):=by
 rw[aIM,J1 h (Nat.le_trans (I5 c j a tr l) (by decide)) (aFK h)]
 rfl
theorem aHo{n k:Nat}(h:k<n):(t0P n).getD k 0=(k:Int):=by
 simp[t0P,h]
end Go.Proofs.YtacpjjgochokcaaDoor.T
namespace Go.Proofs.YtacpjjgochokcaaDoor.T
open Go Go.Tv Go.Proofs
theorem U32.wrap(x:Int):U32 (IntKind.u32.wrap x):=by
 have:IntKind.u32.wrap x=x % 4294967296:=by
  simp only[IntKind.wrap]
  rfl
 rw[this]
 exact⟨by omega,by omega⟩
theorem U32.zero:U32 0:=⟨by decide,by decide⟩
theorem U32.bits(op:BinOp)(x y:Int):U32 (aJ op .u32 x y):=by
 unfold aJ
 dsimp only
 split <;> exact U32.wrap _
theorem R8{α:Type}{K:Ty}{k:K.den}{v:α}:∀ {kv:List (K.den×α)},bK K kv k=some v→∃k',(k',v)∈kv
 | [],h=>by cases h
 | p::r,h=>by
  simp only[bK]at h
  split at h
  ·cases h;exact⟨p.1,.head _⟩
  ·obtain⟨k',h'⟩:=R8 h;exact⟨k',.tail _ h'⟩
theorem aI1(n:Nat)(w:List UInt8):U32 (nmV (fA n) w):=by
 unfold nmV
 cases h:look (fA n) w with
 | none=>exact⟨by decide,by decide⟩
 | some v =>
  obtain⟨w',hm⟩:=R8 h
  have:=(List.of_mem_zip hm).2
  simp only[List.mem_map]at this
  obtain⟨k,_,rfl⟩:=this
  exact U32.wrap _
theorem aER(n:Nat):∀(ws:List (List UInt8)) (b:Int),U32 b→U32 (aDN (fA n) ws b)
 | [],b,h=>h
 | w::ws,b,h=>aER n ws _ (U32.bits _ _ _)
theorem oA(l:List Tree):iV (kQ l)=dR l:=by
 match l with
 | []=>simp[kQ,iV,dR]
 | [x]=>simp[kQ,dR]
 | x::y::r =>
  simp only[kQ,iV]
  rw[if_neg (by decide)]
  rfl
theorem kI(n:Nat)(wh:Int)(sets:gJ):∀e:Ex,dR (fW n wh sets e)=e.lv
 | .nm k=>by simp[fW,dR,iV,Ex.lv]
 | .any=>by simp[fW,dR,iV,Ex.lv]
 | .set neg b=>by simp[fW,dR,iV,Ex.lv]
 | .star a=>by simp[fW,dR,iV,vC,Ex.lv,oA,kI n wh sets a]
 | .plus a=>by simp[fW,dR,iV,vC,Ex.lv,oA,kI n wh sets a]
 | .opt a=>by simp[fW,dR,iV,vC,Ex.lv,oA,kI n wh sets a]
 | .alt a b=>by simp[fW,dR,iV,Ex.lv,oA,kI n wh sets a,kI n wh sets b]
 | .seq a b=>by simp[fW,iU,Ex.lv,kI n wh sets a,kI n wh sets b]
theorem uA{d:Nat}{l:List Tree}(hl:l.length≤1000)(h:∀t∈l,Tok d t):Tok (d+1) (kQ l):=by
 match l with
 | []=>exact⟨U32.zero,by simp[kQ,Tree.kids],fun k hk=>by simp[kQ,Tree.kids]at hk⟩
 | [x]=>exact(h x (.head _)).mono (by omega)
 | x::y::r=>exact⟨U32.zero,hl,h⟩
theorem qG(n:Nat)(wh:Int)(sets:gJ):∀e:Ex,(fW n wh sets e).length≤e.lv
 | .nm k=>by simp[fW,Ex.lv]
 | .any=>by simp[fW,Ex.lv]
 | .set neg b=>by simp[fW,Ex.lv]
 | .star a=>by have:=exTh_pos a;simp only[fW,Ex.lv,List.length_cons,List.length_nil];omega
 | .plus a=>by have:=exTh_pos a;simp only[fW,Ex.lv,List.length_cons,List.length_nil];omega
 | .opt a=>by have:=exTh_pos a;simp only[fW,Ex.lv,List.length_cons,List.length_nil];omega
 | .alt a b=>by have:=exTh_pos a;simp only[fW,Ex.lv,List.length_cons,List.length_nil];omega
 | .seq a b=>by have:=qG n wh sets a;have:=qG n wh sets b;simp only[fW,Ex.lv,List.length_append];omega
where exTh_pos:∀e:Ex,1≤e.lv
 | .nm _ | .any | .set _ _=>Nat.le_refl _
 | .star a | .plus a | .opt a=>exTh_pos a
 | .alt a _ | .seq a _=>by have:=exTh_pos a;simp only[Ex.lv];omega
theorem aGL{e:Ex}(h:e.D≤3):e.lv≤8:=Nat.le_trans (Ex.lv_le e) (Nat.le_trans (Nat.pow_le_pow_right (by decide) h) (by decide))
theorem W2(n:Nat)(a:Ex){o:Int}{t:Tree}(h:a.D+1≤3)(ih:∀t∈fW n (bR n) (fA n) a,Tok (2*a.D+1) t)(ht:t = .node o 0 [kQ (fW n (bR n) (fA n) a)]):Tok (2*(a.D+1)+1) t:=by
 subst ht
 have la:=Nat.le_trans (qG n (bR n) (fA n) a) (aGL (show a.D≤3 by omega))
 have ha:=uA (by omega) ih
 refine⟨U32.zero,by simp[Tree.kids],fun k hk=> ?_⟩
 simp only[Tree.kids,List.mem_singleton]at hk
 subst hk
 exact ha.mono (by omega)
theorem mO(n:Nat):∀(e:Ex),e.D≤3→∀t∈fW n (bR n) (fA n) e,Tok (2*e.D+1) t
 | .nm k,_,t,ht=>by
  simp only[fW,List.mem_singleton]at ht
  subst ht
  exact⟨aI1 _ _,by simp[Tree.kids],fun k hk=>by simp[Tree.kids]at hk⟩
 | .any,_,t,ht=>by
  simp only[fW,List.mem_singleton]at ht
  subst ht
  exact⟨U32.wrap _,by simp[Tree.kids],fun k hk=>by simp[Tree.kids]at hk⟩
 | .set neg b,_,t,ht=>by
  simp only[fW,List.mem_singleton]at ht
  subst ht
  refine⟨?_,by simp[Tree.kids],fun k hk=>by simp[Tree.kids]at hk⟩
  simp only[Tree.set]
  split
  ·exact U32.bits _ _ _
  ·exact aER n _ _ ⟨by decide,by decide⟩
 | .star a,h,t,ht=>W2 n a (by simp only[Ex.D]at h;omega) (fun t h'=>mO n a (by simp only[Ex.D]at h;omega) t h') (o:=4) (by simpa only [fW,List.mem_singleton]using ht)
 | .plus a,h,t,ht=>W2 n a (by simp only[Ex.D]at h;omega) (fun t h'=>mO n a (by simp only[Ex.D]at h;omega) t h') (o:=5) (by simpa only [fW,List.mem_singleton]using ht)
 | .opt a,h,t,ht=>W2 n a (by simp only[Ex.D]at h;omega) (fun t h'=>mO n a (by simp only[Ex.D]at h;omega) t h') (o:=6) (by simpa only [fW,List.mem_singleton]using ht)
 | .alt a b,h,t,ht=>by
  simp only[fW,List.mem_singleton]at ht
  simp only[Ex.D]at h
  subst ht
  have la:=Nat.le_trans (qG n (bR n) (fA n) a) (aGL (show a.D≤3 by omega))
  have lb:=Nat.le_trans (qG n (bR n) (fA n) b) (aGL (show b.D≤3 by omega))
  have ha:=uA (by omega) (fun t h'=>mO n a (by omega) t h')
  have hb:=uA (by omega) (fun t h'=>mO n b (by omega) t h')
  refine⟨U32.zero,by simp[Tree.kids],fun k hk=> ?_⟩
  simp only[Tree.kids,List.mem_cons,List.not_mem_nil,or_false]at hk
  rcases hk with rfl | rfl
  ·exact ha.mono (by simp only[Ex.D];omega)
  ·exact hb.mono (by simp only[Ex.D];omega)
 | .seq a b,h,t,ht=>by
  simp only[fW,List.mem_append]at ht
  simp only[Ex.D]at h ⊢
  rcases ht with ht | ht
  ·exact(mO n a (by omega) t ht).mono (by omega)
  ·exact(mO n b (by omega) t ht).mono (by omega)
theorem aC9(n:Nat)(l:List Int):Tok 8 (zB n (bR n) (fA n) (wI l))∧iV (zB n (bR n) (fA n) (wI l))≤8:=by
 unfold wI
 split
 ·exact⟨⟨U32.zero,by simp[zB,Tree.kids],fun k hk=>by simp[zB,Tree.kids]at hk⟩,by simp[zB,iV]⟩
 ·have hD:=wY 3 (l.take 30) 0
  have hlv:=aGL hD
  have hlen:=Nat.le_trans (qG n (bR n) (fA n) _) hlv
  simp only[zB]
  refine⟨(uA (by omega) (mO n _ hD)).mono (by omega),?_⟩
  rw[oA,kI]
  exact hlv
def pE(r:RL):List Tree:=r.flatMap fun x=>[x.2.1,x.2.2]
theorem aB1(r:RL)(y):pE (r++[y])=pE r++[y.2.1,y.2.2]:=by simp[pE]
theorem aCA(n:Nat)(l:List PR):∀k,(pE (S0 n l k)).length=2*k∧(∀t∈pE (S0 n l k),Tok 8 t)∧dR (pE (S0 n l k))≤16*k
 | 0=>⟨rfl,fun t ht=>by simp[S0,pE]at ht,by simp[S0,pE,dR]⟩
 | k+1=>by
  obtain⟨h1,h2,h3⟩:=aCA n l k
  have ha:=aC9 n (l.getD k qS).2.1
  have hb:=aC9 n (l.getD k qS).2.2
  simp only[S0,aB1]
  refine⟨by simp[h1];omega,fun t ht=> ?_,?_⟩
  ·simp only[List.mem_append,List.mem_cons,List.not_mem_nil,or_false]at ht
   rcases ht with ht | rfl | rfl
   ·exact h2 t ht
   ·exact ha.1
   ·exact hb.1
  ·rw[iU]
   simp only[dR]
   have:=ha.2
   have:=hb.2
   omega
end Go.Proofs.YtacpjjgochokcaaDoor.T
