/- What a plan's pieces say: lines. -/
import Derived.Test.YtacpjjgochokcaaDoorTv06ptm
import Derived.Test.YtacpjjgochokcaaDoorTv06pi
import Derived.Test.YtacpjjgochokcaaDoorTv06ardm
namespace Go.Proofs.YtacpjjgochokcaaDoor.T
open Go Go.Tv Go.Proofs
def lX(n:Nat):List (List UInt8):=eS n 255 n
def fS(n:Nat):gN:=(lX n).zip ((List.range n).map P6)
def t0P(n:Nat):List Int:=(List.range n).map (fun(k:Nat)=>(k:Int))
theorem aG0(n k:Nat):sW n k=sW n (k % n):=by unfold sW;rw[Nat.mod_mod]
theorem aGg:((List.range 7).all fun n=>(List.range n).all fun m=>(cK (lX n) [sW n m] == m) && (look (fS n) [sW n m] == some (P6 m)) && ((lX n).length == n))=true:=by kernel_rfl
theorem wX{n:Nat}(h1:1≤n)(h6:n≤6)(k:Nat):cK (lX n) [sW n k]=k % n∧look (fS n) [sW n k]=some (P6 (k % n))∧(lX n).length=n:=by
 have a:=List.all_eq_true.mp aGg n (List.mem_range.mpr (by omega))
 have b:=List.all_eq_true.mp a (k % n) (List.mem_range.mpr (Nat.mod_lt _ (by omega)))
 simp only[Bool.and_eq_true,beq_iff_eq]at b
 rw[aG0]
 exact⟨b.1.1,b.1.2,b.2⟩
def aHb:List (List UInt8)→List (List UInt8)×List Int×gN→List (List UInt8)×List Int×gN
 | [],s=>s
 | w::ws,s=>aHb ws (s.1++[w],s.2.1++[(s.1.length:Int)],s.2.2++[(w,P6 s.1.length)])
def aES:List (List UInt8)→Nat×gN→Bool
 | [],_=>true
 | w::ws,s=>(look s.2 w).isNone && decide (s.1<24) && aES ws (s.1+1,s.2++[(w,P6 s.1)])
theorem R9:∀(ws:List (List UInt8)) {f:Nat} {ts:Toks} {cls tr sets ks},Kd ts (ws.map .w ++ .s 59::ks)→ts.size<f→aES ws (cls.length,sets)=true →
  ∃r,kX f ts cls tr sets = .inl (r,(aHb ws (cls,tr,sets)))∧Kd r ks
 | [],f,ts,cls,tr,sets,ks,h,hf,hF=>by
  obtain⟨n,r,rfl,h2⟩:=Kd.sg h
  match f,hf with
  | f+1,_=>exact⟨r,by simp only[kX,bF,if_true];rfl,h2⟩
 | w::ws,f,ts,cls,tr,sets,ks,h,hf,hF=>by
  obtain⟨n,r,rfl,h2⟩:=Kd.wd (show Kd ts (.w w::(ws.map .w ++ .s 59::ks))from h)
  simp only[aES,Bool.and_eq_true,Option.isNone_iff_eq_none,decide_eq_true_eq]at hF
  obtain⟨⟨g1,g2⟩,g3⟩:=hF
  match f,hf with
  | f+1,hf =>
   simp only[Toks.size]at hf
   obtain⟨r',h3,h4⟩:=R9 ws (f:=f) (cls:=cls++[w]) (tr:=tr++[(cls.length:Int)]) (sets:=sets++[(w,P6 cls.length)]) h2 (by omega) (by simpa using g3)
   refine⟨r',?_,h4⟩
   have s1:bF 59 (.wd w n r) = .inl (false,.wd w n r):=rfl
   have s2:jY sets (.wd w n r) = .inl (w,n,r):=by simp only[jY,iZ,g1]
   simp only[kX,s1,s2]
   rw[if_neg (by omega),h3]
   rfl
theorem aIe:((List.range 7).all fun n=>decide (aHb (lX n) ([],[],[])=(lX n,t0P n,fS n)) && aES (lX n) (0,[]))=true:=by kernel_rfl
theorem aHo{n:Nat}(h6:n≤6):aHb (lX n) ([],[],[])=(lX n,t0P n,fS n)∧aES (lX n) (0,[])=true:=by
 have a:=List.all_eq_true.mp aIe n (List.mem_range.mpr (by omega))
 simpa using a
theorem aF3{n:Nat}(h1:1≤n)(h6:n≤6)(k:Nat):∃x,look (fS n) [sW n k]=some x:=⟨_,(wX h1 h6 k).2.1⟩
def aFZ(f:Nat)(s:PS)(ks:List K)(s':PS):Prop:=∃f',C4 f s=C4 f' s'∧Kd s'.ts ks∧s'.ts.size<f'
theorem D9{f:Nat}{s s1:PS}{w:List UInt8}{m:Nat}{r:Toks}{ks}(hts:s.ts = .wd w m r)(hf:s.ts.size<f)(h:oU s w m r = .inl s1)(hk:Kd s1.ts ks):aFZ f s ks s1:=by
 match f,hf with
 | f+1,hf =>
  have hz:=wI h
  rw[hts]at hf
  simp only[Toks.size]at hf
  exact⟨f,by simp only[C4,hts,h],hk,by omega⟩
def trV(n:Nat)(tr:List Int):Nat→List Int
 | 0=>t0P n
 | k+1=>(trV n tr k).set k (((tr.getD k 0).toNat % n:Nat):Int)
def ruV(n:Nat)(l:List PR):Nat→RL
 | 0=>[]
 | k+1=>ruV n l k++[(Int.tmod (l.getD k rA).1 3,P7 n (bZ n) (fS n) (yK (l.getD k rA).2.1),P7 n (bZ n) (fS n) (yK (l.getD k rA).2.2))]
def jnV(n:Nat)(j:Int):Int:=aD5 (fS n) (eS n j.toNat n) 0
def plV(l:List PR):Nat→Int
 | 0=>0
 | k+1=>plV l k+(lvO (yK (l.getD k rA).2.1):Nat)+(lvO (yK (l.getD k rA).2.2):Nat)
theorem Z5(l:List Int):lvO (yK l)≤8:=by
 unfold yK
 split
 ·exact Nat.zero_le _
 ·exact Nat.le_trans (Ex.lv_le _) (Nat.le_trans (Nat.pow_le_pow_right (by decide) (xK 3 _ _)) (by decide))
theorem aAQ:∀e:Ex,e.br≤e.D
 | .star a=>by have:=aAQ a;simp only[Ex.br,Ex.D];omega
 | .plus a=>by have:=aAQ a;simp only[Ex.br,Ex.D];omega
 | .opt a=>by have:=aAQ a;simp only[Ex.br,Ex.D];omega
 | .alt a b=>by have:=aAQ a;have:=aAQ b;simp only[Ex.br,Ex.D];omega
 | .seq a b=>by have:=aAQ a;have:=aAQ b;simp only[Ex.br,Ex.D];omega
 | .set _ _=>Nat.zero_le _
 | .any=>Nat.zero_le _
 | .nm _=>Nat.zero_le _
theorem aFk(l:List Int):brO (yK l)≤16:=by
 unfold yK
 split
 ·exact Nat.zero_le _
 ·exact Nat.le_trans (aAQ _) (Nat.le_trans (xK 3 _ _) (by decide))
theorem aEy(l:List PR):∀k,0≤plV l k∧plV l k≤16*(k:Int)
 | 0=>⟨Int.le_refl _,Int.le_refl _⟩
 | k+1=>by
  have h:=aEy l k
  have h1:=Z5 (l.getD k rA).2.1
  have h2:=Z5 (l.getD k rA).2.2
  simp only[plV]
  omega
theorem aCG(n:Nat)(tr:List Int):∀k,(trV n tr k).length=n
 | 0=>by simp[trV,t0P]
 | k+1=>by simp only[trV,List.length_set];exact aCG n tr k
theorem W5(n:Nat)(l:List PR):∀k,(ruV n l k).length=k
 | 0=>rfl
 | k+1=>by simp only[ruV,List.length_append,List.length_singleton,W5 n l k]
theorem aHe{d:Int}(h:0≤d):does? (sK d)=some (Int.tmod d 3)∧sK d≠[99,108,97,115,115]∧sK d≠[115,101,116]∧sK d≠[106,111,105,110]∧sK d≠[116,114,101,97,116]:=by
 obtain⟨m,rfl⟩:=Int.eq_ofNat_of_zero_le h
 have e:Int.tmod ((m:Nat):Int) (3:Int)=((m % 3:Nat):Int):=rfl
 unfold sK
 rw[e,Int.toNat_natCast]
 have hm:m % 3<3:=Nat.mod_lt _ (by decide)
 generalize m % 3=k at hm
 match k,hm with
 | 0,_=>exact⟨rfl,by decide,by decide,by decide,by decide⟩
 | 1,_=>exact⟨rfl,by decide,by decide,by decide,by decide⟩
 | 2,_=>exact⟨rfl,by decide,by decide,by decide,by decide⟩
section
variable{n:Nat}(h1:1≤n)(h6:n≤6)
include h1 h6
omit h1 in
theorem aGQ{f:Nat}{ts:Toks}{ks}(h:Kd ts (V0 n++ks))(hf:ts.size<f):∃r,aFZ f (F5 ts) ks ⟨r,lX n,0,0,t0P n,[],fS n,0⟩:=by
 obtain⟨m,r,rfl,h2⟩:=Kd.wd (show Kd ts (.w [99,108,97,115,115]::((lX n).map .w ++ .s 59::ks))from by simpa [V0,lX]using h)
 obtain⟨c1,c2⟩:=aHo h6
 obtain⟨r1,h3,h4⟩:=R9 (lX n) (f:=r.size+1) (cls:=[]) (tr:=[]) (sets:=[]) h2 (by omega) c2
 refine⟨r1,D9 rfl hf ?_ h4⟩
 rw[c1]at h3
 have h3':kX (r.size+1) r (F5 (.wd [99,108,97,115,115] m r)).cls (F5 (.wd [99,108,97,115,115] m r)).treat (F5 (.wd [99,108,97,115,115] m r)).sets=_:=h3
 unfold oU
 rw[if_pos rfl,h3']
 rfl
theorem aHf{f:Nat}{ts:Toks}{j a:Int}{ks}(h:Kd ts (aAX n j a++ks))(hf:ts.size<f):∃r,aFZ f ⟨ts,lX n,0,0,t0P n,[],fS n,0⟩ ks ⟨r,lX n,if j=0 then 0 else aK .or .u32 0 (jnV n j),if j=0 then 0 else aK .or .u32 0 (jnV n a),t0P n,[],fS n,0⟩:=by
 unfold aAX at h
 by_cases hj:j=0
 ·rw[if_pos hj]at h
  rw[if_pos hj,if_pos hj]
  exact⟨ts,f,rfl,h,hf⟩
 ·rw[if_neg hj]at h
  rw[if_neg hj,if_neg hj]
  obtain⟨m,r,rfl,h2⟩:=Kd.wd (show Kd ts (.w [106,111,105,110]::((eS n j.toNat n).map .w ++ .s 47::((eS n a.toNat n).map .w ++ .s 59::ks)))from by simpa using h)
  have kn:∀b,∀w∈eS n b n,∃x,look (fS n) w=some x:=fun b w hw=>by
   obtain⟨i,rfl⟩:=vW hw
   exact aF3 h1 h6 i
  obtain⟨r1,h3,h4⟩:=t7 (b:=0) (eS n j.toNat n) h2 (kn _)
  obtain⟨r2,h5,h7⟩:=t7 (b:=0) (eS n a.toNat n) h4 (kn _)
  refine⟨r2,D9 rfl hf ?_ h7⟩
  unfold oU
  rw[if_neg (by decide),if_neg (by decide),if_pos rfl]
  simp only[zS,h3,h5]
  rfl
theorem aHQ{f:Nat}{tr:List Int}{ts:Toks}{jn an:Int}(hf:ts.size<f):∀(k:Nat) {ks},k≤n→Kd ts (trK n tr k++ks)→∃r,aFZ f ⟨ts,lX n,jn,an,t0P n,[],fS n,0⟩ ks ⟨r,lX n,jn,an,trV n tr k,[],fS n,0⟩
 | 0,ks,_,h=>⟨ts,f,rfl,h,hf⟩
 | k+1,ks,hk,h=>by
  simp only[trK,List.append_assoc,List.cons_append,List.nil_append]at h
  obtain⟨r,f1,e1,h2,h3⟩:=aHQ (jn:=jn) (an:=an) hf k (by omega) h
  obtain⟨m1,r1,e2,h4⟩:=Kd.wd h2
  obtain⟨m2,r2,rfl,h5⟩:=Kd.wd (show Kd r1 (.w [sW n k]::_)from h4)
  obtain⟨m3,r3,rfl,h7⟩:=Kd.sg h5
  obtain⟨m4,r4,rfl,h8⟩:=Kd.wd (show Kd r3 (.w [sW n (tr.getD k 0).toNat]::_)from h7)
  obtain⟨m5,r5,rfl,h9⟩:=Kd.sg h8
  obtain⟨p1,_,p3⟩:=wX h1 h6 k
  obtain⟨q1,_,_⟩:=wX h1 h6 (tr.getD k 0).toNat
  have hkm:k % n=k:=Nat.mod_eq_of_lt (by omega)
  have hvm:(tr.getD k 0).toNat % n<n:=Nat.mod_lt _ (by omega)
  have o1:vO (lX n) (.wd [sW n k] m2 (.sg 61 m3 (.wd [sW n (tr.getD k 0).toNat] m4 (.sg 59 m5 r5)))) = .inl ((k:Int),.sg 61 m3 (.wd [sW n (tr.getD k 0).toNat] m4 (.sg 59 m5 r5))):=by
   simp only[vO,iZ,p1,p3,hkm]
   rw[if_pos (by omega)]
  have o2:vO (lX n) (.wd [sW n (tr.getD k 0).toNat] m4 (.sg 59 m5 r5)) = .inl ((((tr.getD k 0).toNat % n:Nat):Int),.sg 59 m5 r5):=by
   simp only[vO,iZ,q1,p3]
   rw[if_pos hvm]
  obtain⟨f2,e3,h10,h11⟩:=D9 (s1:=⟨r5,lX n,jn,an,trV n tr (k+1),[],fS n,0⟩) (ks:=ks) e2 h3 (by
   unfold oU
   rw[if_neg (by decide),if_neg (by decide),if_neg (by decide),if_pos rfl]
   simp only[tE,o1,lP,if_true,o2]
   simp only[trV,Int.toNat_natCast]) h9
  exact⟨r5,f2,e1.trans e3,h10,h11⟩
theorem aHE{f:Nat}{l:List PR}{ts:Toks}{jn an:Int}{tv:List Int}(hf:ts.size<f)(hl:∀x∈l,0≤x.1):∀(k:Nat) {ks},k≤l.length→k≤10→Kd ts (ruK n l k++ks)→∃r,aFZ f ⟨ts,lX n,jn,an,tv,[],fS n,0⟩ ks ⟨r,lX n,jn,an,tv,ruV n l k,fS n,plV l k⟩
 | 0,ks,_,_,h=>⟨ts,f,rfl,h,hf⟩
 | k+1,ks,hk,h10,h=>by
  simp only[ruK,List.append_assoc,List.cons_append,List.nil_append]at h
  obtain⟨r,f1,e1,h2,h3⟩:=aHE (jn:=jn) (an:=an) (tv:=tv) hf hl k (by omega) (by omega) h
  obtain⟨m1,r1,e2,h4⟩:=Kd.wd h2
  obtain⟨d1,d2,d3,d4,d5⟩:=aHe (hl _ (eF (d:=rA) (show k<l.length by omega)))
  have hp:=aEy l k
  have v1:=Z5 (l.getD k rA).2.1
  have v2:=Z5 (l.getD k rA).2.2
  have hcl:(lX n).length=n:=(wX h1 h6 0).2.2
  obtain⟨r2,x1,x2⟩:=O7 (wh:=bZ n) (aF3 h1 h6) (yK (l.getD k rA).2.1) (aFk _) h4 (by decide) (by decide) (by decide) hp.1 (by omega)
  obtain⟨m2,r3,rfl,x3⟩:=Kd.sg x2
  obtain⟨r4,y1,y2⟩:=O7 (wh:=bZ n) (aF3 h1 h6) (yK (l.getD k rA).2.2) (aFk _) x3 (by decide) (by decide) (by decide) (show 0≤plV l k+(lvO (yK (l.getD k rA).2.1):Nat) by omega) (by omega)
  obtain⟨m3,r5,rfl,y3⟩:=Kd.sg y2
  obtain⟨f2,e3,g1,g2⟩:=D9 (s1:=⟨r5,lX n,jn,an,tv,ruV n l (k+1),fS n,plV l (k+1)⟩) (ks:=ks) e2 h3 (by
   unfold oU
   rw[if_neg d2,if_neg d3,if_neg d4,if_neg d5,d1]
   simp only[sQ,hcl]
   rw[if_neg (by rw[W5];omega)]
   simp only[x1,lP,if_true,y1]
   rfl) y3
  exact⟨r5,f2,e1.trans e3,g1,g2⟩
end
def qI(c j a:Int)(tr:List Int)(l:List PR):List (List UInt8)×Int×Int×List Int×RL :=
 (lX (bQ c),if j=0 then 0 else aK .or .u32 0 (jnV (bQ c) j),if j=0 then 0 else aK .or .u32 0 (jnV (bQ c) a),trV (bQ c) tr (min tr.length (bQ c)),ruV (bQ c) l (min l.length 10))
theorem E8{c j a:Int}{tr:List Int}{l:List PR}(h:Pl c j a tr l){t:List UInt8}(ht:t.length≤4096)(hk:Kd (T t 0) (aA6 c j a tr l)):y4 t = .inl (qI c j a tr l):=by
 have h1:=tD c
 have h6:=rQ c
 have hz:=wM (t:=t) _ 0 (Nat.le_refl _) (by omega)
 unfold aA6 at hk
 obtain⟨r1,f1,e1,k1,s1⟩:=aGQ h6 (f:=t.length+1) hk (by omega)
 obtain⟨r2,f2,e2,k2,s2⟩:=aHf h1 h6 k1 s1
 obtain⟨r3,f3,e3,k3,s3⟩:=aHQ h1 h6 s2 (min tr.length (bQ c)) (Nat.min_le_right _ _) k2
 obtain⟨r4,f4,e4,k4,s4⟩:=aHE h1 h6 s3 (fun x hx=>(h.hl x hx).1.1) (min l.length 10) (ks:=[]) (Nat.min_le_left _ _) (Nat.min_le_right _ _) (by rw[List.append_nil];exact k3)
 obtain⟨m,hm⟩:=Kd.nil k4
 dsimp only at hm
 subst hm
 obtain⟨f5,rfl⟩:∃f5,f4=f5+1:=⟨f4 - 1,by omega⟩
 have hall:C4 (t.length+1) (F5 (T t 0)) = .inl _:=((e1.trans e2).trans e3).trans (e4.trans rfl)
 unfold y4
 rw[if_neg (by omega),hall]
 rfl
end Go.Proofs.YtacpjjgochokcaaDoor.T
namespace Go.Proofs.YtacpjjgochokcaaDoor.T
open Go Go.Tv Go.Proofs
theorem aJ2:vY 3=99:=rfl
theorem T8{n:Nat}(h6:n≤6)(l:List Int):(aBU n (yK l)).length≤99:=by
 unfold yK
 split
 ·exact Nat.zero_le _
 ·exact Nat.le_trans (kY h6 _) (Nat.le_trans (pH (xK 3 _ _)) (Nat.le_of_eq aJ2))
theorem aFq{n:Nat}(h6:n≤6)(b:List UInt8)(l:List PR)(k:Nat):(ruT b n l k).length≤b.length+208*k:=by
 induction k with
 | zero=>exact Nat.le_refl _
 | succ k ih =>
  have h1:=zB (l.getD k rA).1
  have h2:=T8 h6 (l.getD k rA).2.1
  have h3:=T8 h6 (l.getD k rA).2.2
  simp only[ruT,List.length_append,List.length_cons,List.length_nil];omega
theorem O1(c j a:Int)(tr:List Int)(l:List PR):(C2 c j a tr l).length≤2300:=by
 have h6:=rQ c
 have h1:=S3 h6 j a
 have h2:=aAh (qT (bQ c) j a) (bQ c) tr (min tr.length (bQ c))
 have h3:=aFq h6 (trT (qT (bQ c) j a) (bQ c) tr (min tr.length (bQ c))) l (min l.length 10)
 unfold C2
 have h4:min l.length 10≤10:=Nat.min_le_right _ _
 have h5:min tr.length (bQ c)≤bQ c:=Nat.min_le_right _ _
 omega
theorem aB1{c j a:Int}{tr:List Int}{l:List PR}(h:Pl c j a tr l):i9 (C2 c j a tr l)=some (qI c j a tr l,0,0):=by
 rw[aIO,E8 h (Nat.le_trans (O1 c j a tr l) (by decide)) (aEK h)]
 rfl
theorem aGO{n k:Nat}(h:k<n):(t0P n).getD k 0=(k:Int):=by
 simp[t0P,h]
end Go.Proofs.YtacpjjgochokcaaDoor.T
namespace Go.Proofs.YtacpjjgochokcaaDoor.T
open Go Go.Tv Go.Proofs
theorem U32.wrap(x:Int):U32 (IntKind.u32.wrap x):=by
 have:IntKind.u32.wrap x=x % 4294967296:=by
  simp only[IntKind.wrap]
  rfl
 rw[this]
 exact⟨by omega,by omega⟩
theorem U32.zero:U32 0:=⟨by decide,by decide⟩
theorem U32.bits(op:BinOp)(x y:Int):U32 (aK op .u32 x y):=by
 unfold aK
 dsimp only
 split <;> exact U32.wrap _
theorem S0{α:Type}{K:Ty}{k:K.den}{v:α}:∀ {kv:List (K.den×α)},bL K kv k=some v→∃k',(k',v)∈kv
 | [],h=>by cases h
 | p::r,h=>by
  simp only[bL]at h
  split at h
  ·cases h;exact⟨p.1,.head _⟩
  ·obtain⟨k',h'⟩:=S0 h;exact⟨k',.tail _ h'⟩
theorem aJH(n:Nat)(w:List UInt8):U32 (nmV (fS n) w):=by
 unfold nmV
 cases h:look (fS n) w with
 | none=>exact⟨by decide,by decide⟩
 | some v =>
  obtain⟨w',hm⟩:=S0 h
  have:=(List.of_mem_zip hm).2
  simp only[List.mem_map]at this
  obtain⟨k,_,rfl⟩:=this
  exact U32.wrap _
theorem aFz(n:Nat):∀(ws:List (List UInt8)) (b:Int),U32 b→U32 (aD5 (fS n) ws b)
 | [],b,h=>h
 | w::ws,b,h=>aFz n ws _ (U32.bits _ _ _)
theorem oT(l:List Tree):iW (kL l)=dQ l:=by
 match l with
 | []=>simp[kL,iW,dQ]
 | [x]=>simp[kL,dQ]
 | x::y::r =>
  simp only[kL,iW]
  rw[if_neg (by decide)]
  rfl
theorem kJ(n:Nat)(wh:Int)(sets:gN):∀e:Ex,dQ (f6 n wh sets e)=e.lv
 | .nm k=>by simp[f6,dQ,iW,Ex.lv]
 | .any=>by simp[f6,dQ,iW,Ex.lv]
 | .set neg b=>by simp[f6,dQ,iW,Ex.lv]
 | .star a=>by simp[f6,dQ,iW,vN,Ex.lv,oT,kJ n wh sets a]
 | .plus a=>by simp[f6,dQ,iW,vN,Ex.lv,oT,kJ n wh sets a]
 | .opt a=>by simp[f6,dQ,iW,vN,Ex.lv,oT,kJ n wh sets a]
 | .alt a b=>by simp[f6,dQ,iW,Ex.lv,oT,kJ n wh sets a,kJ n wh sets b]
 | .seq a b=>by simp[f6,jF,Ex.lv,kJ n wh sets a,kJ n wh sets b]
theorem uD{d:Nat}{l:List Tree}(hl:l.length≤1000)(h:∀t∈l,Tok d t):Tok (d+1) (kL l):=by
 match l with
 | []=>exact⟨U32.zero,by simp[kL,Tree.kids],fun k hk=>by simp[kL,Tree.kids]at hk⟩
 | [x]=>exact(h x (.head _)).mono (by omega)
 | x::y::r=>exact⟨U32.zero,hl,h⟩
theorem qM(n:Nat)(wh:Int)(sets:gN):∀e:Ex,(f6 n wh sets e).length≤e.lv
 | .nm k=>by simp[f6,Ex.lv]
 | .any=>by simp[f6,Ex.lv]
 | .set neg b=>by simp[f6,Ex.lv]
 | .star a=>by have:=exTh_pos a;simp only[f6,Ex.lv,List.length_cons,List.length_nil];omega
 | .plus a=>by have:=exTh_pos a;simp only[f6,Ex.lv,List.length_cons,List.length_nil];omega
 | .opt a=>by have:=exTh_pos a;simp only[f6,Ex.lv,List.length_cons,List.length_nil];omega
 | .alt a b=>by have:=exTh_pos a;simp only[f6,Ex.lv,List.length_cons,List.length_nil];omega
 | .seq a b=>by have:=qM n wh sets a;have:=qM n wh sets b;simp only[f6,Ex.lv,List.length_append];omega
where exTh_pos:∀e:Ex,1≤e.lv
 | .nm _ | .any | .set _ _=>Nat.le_refl _
 | .star a | .plus a | .opt a=>exTh_pos a
 | .alt a _ | .seq a _=>by have:=exTh_pos a;simp only[Ex.lv];omega
theorem aHj{e:Ex}(h:e.D≤3):e.lv≤8:=Nat.le_trans (Ex.lv_le e) (Nat.le_trans (Nat.pow_le_pow_right (by decide) h) (by decide))
theorem W3(n:Nat)(a:Ex){o:Int}{t:Tree}(h:a.D+1≤3)(ih:∀t∈f6 n (bZ n) (fS n) a,Tok (2*a.D+1) t)(ht:t = .node o 0 [kL (f6 n (bZ n) (fS n) a)]):Tok (2*(a.D+1)+1) t:=by
 subst ht
 have la:=Nat.le_trans (qM n (bZ n) (fS n) a) (aHj (show a.D≤3 by omega))
 have ha:=uD (by omega) ih
 refine⟨U32.zero,by simp[Tree.kids],fun k hk=> ?_⟩
 simp only[Tree.kids,List.mem_singleton]at hk
 subst hk
 exact ha.mono (by omega)
theorem mK(n:Nat):∀(e:Ex),e.D≤3→∀t∈f6 n (bZ n) (fS n) e,Tok (2*e.D+1) t
 | .nm k,_,t,ht=>by
  simp only[f6,List.mem_singleton]at ht
  subst ht
  exact⟨aJH _ _,by simp[Tree.kids],fun k hk=>by simp[Tree.kids]at hk⟩
 | .any,_,t,ht=>by
  simp only[f6,List.mem_singleton]at ht
  subst ht
  exact⟨U32.wrap _,by simp[Tree.kids],fun k hk=>by simp[Tree.kids]at hk⟩
 | .set neg b,_,t,ht=>by
  simp only[f6,List.mem_singleton]at ht
  subst ht
  refine⟨?_,by simp[Tree.kids],fun k hk=>by simp[Tree.kids]at hk⟩
  simp only[Tree.set]
  split
  ·exact U32.bits _ _ _
  ·exact aFz n _ _ ⟨by decide,by decide⟩
 | .star a,h,t,ht=>W3 n a (by simp only[Ex.D]at h;omega) (fun t h'=>mK n a (by simp only[Ex.D]at h;omega) t h') (o:=4) (by simpa only [f6,List.mem_singleton]using ht)
 | .plus a,h,t,ht=>W3 n a (by simp only[Ex.D]at h;omega) (fun t h'=>mK n a (by simp only[Ex.D]at h;omega) t h') (o:=5) (by simpa only [f6,List.mem_singleton]using ht)
 | .opt a,h,t,ht=>W3 n a (by simp only[Ex.D]at h;omega) (fun t h'=>mK n a (by simp only[Ex.D]at h;omega) t h') (o:=6) (by simpa only [f6,List.mem_singleton]using ht)
 | .alt a b,h,t,ht=>by
  simp only[f6,List.mem_singleton]at ht
  simp only[Ex.D]at h
  subst ht
  have la:=Nat.le_trans (qM n (bZ n) (fS n) a) (aHj (show a.D≤3 by omega))
  have lb:=Nat.le_trans (qM n (bZ n) (fS n) b) (aHj (show b.D≤3 by omega))
  have ha:=uD (by omega) (fun t h'=>mK n a (by omega) t h')
  have hb:=uD (by omega) (fun t h'=>mK n b (by omega) t h')
  refine⟨U32.zero,by simp[Tree.kids],fun k hk=> ?_⟩
  simp only[Tree.kids,List.mem_cons,List.not_mem_nil,or_false]at hk
  rcases hk with rfl | rfl
  ·exact ha.mono (by simp only[Ex.D];omega)
  ·exact hb.mono (by simp only[Ex.D];omega)
 | .seq a b,h,t,ht=>by
  simp only[f6,List.mem_append]at ht
  simp only[Ex.D]at h ⊢
  rcases ht with ht | ht
  ·exact(mK n a (by omega) t ht).mono (by omega)
  ·exact(mK n b (by omega) t ht).mono (by omega)
theorem aDp(n:Nat)(l:List Int):Tok 8 (P7 n (bZ n) (fS n) (yK l))∧iW (P7 n (bZ n) (fS n) (yK l))≤8:=by
 unfold yK
 split
 ·exact⟨⟨U32.zero,by simp[P7,Tree.kids],fun k hk=>by simp[P7,Tree.kids]at hk⟩,by simp[P7,iW]⟩
 ·have hD:=xK 3 (l.take 30) 0
  have hlv:=aHj hD
  have hlen:=Nat.le_trans (qM n (bZ n) (fS n) _) hlv
  simp only[P7]
  refine⟨(uD (by omega) (mK n _ hD)).mono (by omega),?_⟩
  rw[oT,kJ]
  exact hlv
def pD(r:RL):List Tree:=r.flatMap fun x=>[x.2.1,x.2.2]
theorem aCw(r:RL)(y):pD (r++[y])=pD r++[y.2.1,y.2.2]:=by simp[pD]
theorem aCA(n:Nat)(l:List PR):∀k,(pD (ruV n l k)).length=2*k∧(∀t∈pD (ruV n l k),Tok 8 t)∧dQ (pD (ruV n l k))≤16*k
 | 0=>⟨rfl,fun t ht=>by simp[ruV,pD]at ht,by simp[ruV,pD,dQ]⟩
 | k+1=>by
  obtain⟨h1,h2,h3⟩:=aCA n l k
  have ha:=aDp n (l.getD k rA).2.1
  have hb:=aDp n (l.getD k rA).2.2
  simp only[ruV,aCw]
  refine⟨by simp[h1];omega,fun t ht=> ?_,?_⟩
  ·simp only[List.mem_append,List.mem_cons,List.not_mem_nil,or_false]at ht
   rcases ht with ht | rfl | rfl
   ·exact h2 t ht
   ·exact ha.1
   ·exact hb.1
  ·rw[jF]
   simp only[dQ]
   have:=ha.2
   have:=hb.2
   omega
end Go.Proofs.YtacpjjgochokcaaDoor.T
