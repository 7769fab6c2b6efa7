/- What a plan's pieces say: lines. -/
import Derived.Test.YtacpjjgochokcaaDoorTv06ptm
import Derived.Test.YtacpjjgochokcaaDoorTv06pi
import Derived.Test.YtacpjjgochokcaaDoorTv06ardm
namespace Go.Proofs.YtacpjjgochokcaaDoor.T
open Go Go.Tv Go.Proofs
def jP(n:Nat):List (List UInt8):=dT n 255 n
def dD(n:Nat):fI:=(jP n).zip ((List.range n).map W0)
def t0P(n:Nat):List Int:=(List.range n).map (fun(k:Nat)=>(k:Int))
theorem aEu(n k:Nat):qR n k=qR n (k % n):=by unfold qR;rw[Nat.mod_mod]
theorem aC5:((List.range 7).all fun n=>(List.range n).all fun m=>(gB (jP n) [qR n m] == m) && (look (dD n) [qR n m] == some (W0 m)) && ((jP n).length == n))=true:=by kernel_rfl
theorem sU{n:Nat}(h1:1≤n)(h6:n≤6)(k:Nat):gB (jP n) [qR n k]=k % n∧look (dD n) [qR n k]=some (W0 (k % n))∧(jP n).length=n:=by
 have a:=List.all_eq_true.mp aC5 n (List.mem_range.mpr (by omega))
 have b:=List.all_eq_true.mp a (k % n) (List.mem_range.mpr (Nat.mod_lt _ (by omega)))
 simp only[Bool.and_eq_true,beq_iff_eq]at b
 rw[aEu]
 exact⟨b.1.1,b.1.2,b.2⟩
def aEo:List (List UInt8)→List (List UInt8)×List Int×fI→List (List UInt8)×List Int×fI
 | [],s=>s
 | w::ws,s=>aEo ws (s.1++[w],s.2.1++[(s.1.length:Int)],s.2.2++[(w,W0 s.1.length)])
def aCk:List (List UInt8)→Nat×fI→Bool
 | [],_=>true
 | w::ws,s=>(look s.2 w).isNone && decide (s.1<24) && aCk ws (s.1+1,s.2++[(w,W0 s.1)])
theorem D6:∀(ws:List (List UInt8)) {f:Nat} {ts:Toks} {cls tr sets ks},Kd ts (ws.map .w ++ .s 59::ks)→ts.size<f→aCk ws (cls.length,sets)=true →
  ∃r,kL f ts cls tr sets = .inl (r,(aEo ws (cls,tr,sets)))∧Kd r ks
 | [],f,ts,cls,tr,sets,ks,h,hf,hF=>by
  obtain⟨n,r,rfl,h2⟩:=Kd.sg h
  match f,hf with
  | f+1,_=>exact⟨r,by simp only[kL,dX,if_true];rfl,h2⟩
 | w::ws,f,ts,cls,tr,sets,ks,h,hf,hF=>by
  obtain⟨n,r,rfl,h2⟩:=Kd.wd (show Kd ts (.w w::(ws.map .w ++ .s 59::ks))from h)
  simp only[aCk,Bool.and_eq_true,Option.isNone_iff_eq_none,decide_eq_true_eq]at hF
  obtain⟨⟨g1,g2⟩,g3⟩:=hF
  match f,hf with
  | f+1,hf =>
   simp only[Toks.size]at hf
   obtain⟨r',h3,h4⟩:=D6 ws (f:=f) (cls:=cls++[w]) (tr:=tr++[(cls.length:Int)]) (sets:=sets++[(w,W0 cls.length)]) h2 (by omega) (by simpa using g3)
   refine⟨r',?_,h4⟩
   have s1:dX 59 (.wd w n r) = .inl (false,.wd w n r):=rfl
   have s2:kO sets (.wd w n r) = .inl (w,n,r):=by simp only[kO,kU,g1]
   simp only[kL,s1,s2]
   rw[if_neg (by omega),h3]
   rfl
theorem aGe:((List.range 7).all fun n=>decide (aEo (jP n) ([],[],[])=(jP n,t0P n,dD n)) && aCk (jP n) (0,[]))=true:=by kernel_rfl
theorem aEQ{n:Nat}(h6:n≤6):aEo (jP n) ([],[],[])=(jP n,t0P n,dD n)∧aCk (jP n) (0,[])=true:=by
 have a:=List.all_eq_true.mp aGe n (List.mem_range.mpr (by omega))
 simpa using a
theorem aC2{n:Nat}(h1:1≤n)(h6:n≤6)(k:Nat):∃x,look (dD n) [qR n k]=some x:=⟨_,(sU h1 h6 k).2.1⟩
def aCS(f:Nat)(s:PS)(ks:List K)(s':PS):Prop:=∃f',K8 f s=K8 f' s'∧Kd s'.ts ks∧s'.ts.size<f'
theorem wY{f:Nat}{s s1:PS}{w:List UInt8}{m:Nat}{r:Toks}{ks}(hts:s.ts = .wd w m r)(hf:s.ts.size<f)(h:oM s w m r = .inl s1)(hk:Kd s1.ts ks):aCS f s ks s1:=by
 match f,hf with
 | f+1,hf =>
  have hz:=yL h
  rw[hts]at hf
  simp only[Toks.size]at hf
  exact⟨f,by simp only[K8,hts,h],hk,by omega⟩
def trV(n:Nat)(tr:List Int):Nat→List Int
 | 0=>t0P n
 | k+1=>(trV n tr k).set k (((tr.getD k 0).toNat % n:Nat):Int)
def D9(n:Nat)(l:List PR):Nat→RL
 | 0=>[]
 | k+1=>D9 n l k++[(Int.tmod (l.getD k L5).1 3,qU n (b9 n) (dD n) (wM (l.getD k L5).2.1),qU n (b9 n) (dD n) (wM (l.getD k L5).2.2))]
def jnV(n:Nat)(j:Int):Int:=aBW (dD n) (dT n j.toNat n) 0
def plV(l:List PR):Nat→Int
 | 0=>0
 | k+1=>plV l k+(lvO (wM (l.getD k L5).2.1):Nat)+(lvO (wM (l.getD k L5).2.2):Nat)
theorem H8(l:List Int):lvO (wM l)≤8:=by
 unfold wM
 split
 ·exact Nat.zero_le _
 ·exact Nat.le_trans (Ex.lv_le _) (Nat.le_trans (Nat.pow_le_pow_right (by decide) (N7 3 _ _)) (by decide))
theorem N2:∀e:Ex,e.br≤e.D
 | .star a=>by have:=N2 a;simp only[Ex.br,Ex.D];omega
 | .plus a=>by have:=N2 a;simp only[Ex.br,Ex.D];omega
 | .opt a=>by have:=N2 a;simp only[Ex.br,Ex.D];omega
 | .alt a b=>by have:=N2 a;have:=N2 b;simp only[Ex.br,Ex.D];omega
 | .seq a b=>by have:=N2 a;have:=N2 b;simp only[Ex.br,Ex.D];omega
 | .set _ _=>Nat.zero_le _
 | .any=>Nat.zero_le _
 | .nm _=>Nat.zero_le _
theorem aCd(l:List Int):brO (wM l)≤16:=by
 unfold wM
 split
 ·exact Nat.zero_le _
 ·exact Nat.le_trans (N2 _) (Nat.le_trans (N7 3 _ _) (by decide))
theorem aCH(l:List PR):∀k,0≤plV l k∧plV l k≤16*(k:Int)
 | 0=>⟨Int.le_refl _,Int.le_refl _⟩
 | k+1=>by
  have h:=aCH l k
  have h1:=H8 (l.getD k L5).2.1
  have h2:=H8 (l.getD k L5).2.2
  simp only[plV]
  omega
theorem aAR(n:Nat)(tr:List Int):∀k,(trV n tr k).length=n
 | 0=>by simp[trV,t0P]
 | k+1=>by simp only[trV,List.length_set];exact aAR n tr k
theorem M8(n:Nat)(l:List PR):∀k,(D9 n l k).length=k
 | 0=>rfl
 | k+1=>by simp only[D9,List.length_append,List.length_singleton,M8 n l k]
theorem aEz{d:Int}(h:0≤d):does? (pP d)=some (Int.tmod d 3)∧pP d≠[99,108,97,115,115]∧pP d≠[115,101,116]∧pP d≠[106,111,105,110]∧pP d≠[116,114,101,97,116]:=by
 obtain⟨m,rfl⟩:=Int.eq_ofNat_of_zero_le h
 have e:Int.tmod ((m:Nat):Int) (3:Int)=((m % 3:Nat):Int):=rfl
 unfold pP
 rw[e,Int.toNat_natCast]
 have hm:m % 3<3:=Nat.mod_lt _ (by decide)
 generalize m % 3=k at hm
 match k,hm with
 | 0,_=>exact⟨rfl,by decide,by decide,by decide,by decide⟩
 | 1,_=>exact⟨rfl,by decide,by decide,by decide,by decide⟩
 | 2,_=>exact⟨rfl,by decide,by decide,by decide,by decide⟩
section
variable{n:Nat}(h1:1≤n)(h6:n≤6)
include h1 h6
omit h1 in
theorem aE7{f:Nat}{ts:Toks}{ks}(h:Kd ts (E2 n++ks))(hf:ts.size<f):∃r,aCS f (J0 ts) ks ⟨r,jP n,0,0,t0P n,[],dD n,0⟩:=by
 obtain⟨m,r,rfl,h2⟩:=Kd.wd (show Kd ts (.w [99,108,97,115,115]::((jP n).map .w ++ .s 59::ks))from by simpa [E2,jP]using h)
 obtain⟨c1,c2⟩:=aEQ h6
 obtain⟨r1,h3,h4⟩:=D6 (jP n) (f:=r.size+1) (cls:=[]) (tr:=[]) (sets:=[]) h2 (by omega) c2
 refine⟨r1,wY rfl hf ?_ h4⟩
 rw[c1]at h3
 have h3':kL (r.size+1) r (J0 (.wd [99,108,97,115,115] m r)).cls (J0 (.wd [99,108,97,115,115] m r)).treat (J0 (.wd [99,108,97,115,115] m r)).sets=_:=h3
 unfold oM
 rw[if_pos rfl,h3']
 rfl
theorem aEG{f:Nat}{ts:Toks}{j a:Int}{ks}(h:Kd ts (aCA n j a++ks))(hf:ts.size<f):∃r,aCS f ⟨ts,jP n,0,0,t0P n,[],dD n,0⟩ ks ⟨r,jP n,if j=0 then 0 else aG .or .u32 0 (jnV n j),if j=0 then 0 else aG .or .u32 0 (jnV n a),t0P n,[],dD n,0⟩:=by
 unfold aCA at h
 by_cases hj:j=0
 ·rw[if_pos hj]at h
  rw[if_pos hj,if_pos hj]
  exact⟨ts,f,rfl,h,hf⟩
 ·rw[if_neg hj]at h
  rw[if_neg hj,if_neg hj]
  obtain⟨m,r,rfl,h2⟩:=Kd.wd (show Kd ts (.w [106,111,105,110]::((dT n j.toNat n).map .w ++ .s 47::((dT n a.toNat n).map .w ++ .s 59::ks)))from by simpa using h)
  have kn:∀b,∀w∈dT n b n,∃x,look (dD n) w=some x:=fun b w hw=>by
   obtain⟨i,rfl⟩:=sF hw
   exact aC2 h1 h6 i
  obtain⟨r1,h3,h4⟩:=pW (b:=0) (dT n j.toNat n) h2 (kn _)
  obtain⟨r2,h5,h7⟩:=pW (b:=0) (dT n a.toNat n) h4 (kn _)
  refine⟨r2,wY rfl hf ?_ h7⟩
  unfold oM
  rw[if_neg (by decide),if_neg (by decide),if_pos rfl]
  simp only[w8,h3,h5]
  rfl
theorem aFl{f:Nat}{tr:List Int}{ts:Toks}{jn an:Int}(hf:ts.size<f):∀(k:Nat) {ks},k≤n→Kd ts (trK n tr k++ks)→∃r,aCS f ⟨ts,jP n,jn,an,t0P n,[],dD n,0⟩ ks ⟨r,jP n,jn,an,trV n tr k,[],dD n,0⟩
 | 0,ks,_,h=>⟨ts,f,rfl,h,hf⟩
 | k+1,ks,hk,h=>by
  simp only[trK,List.append_assoc,List.cons_append,List.nil_append]at h
  obtain⟨r,f1,e1,h2,h3⟩:=aFl (jn:=jn) (an:=an) hf k (by omega) h
  obtain⟨m1,r1,e2,h4⟩:=Kd.wd h2
  obtain⟨m2,r2,rfl,h5⟩:=Kd.wd (show Kd r1 (.w [qR n k]::_)from h4)
  obtain⟨m3,r3,rfl,h7⟩:=Kd.sg h5
  obtain⟨m4,r4,rfl,h8⟩:=Kd.wd (show Kd r3 (.w [qR n (tr.getD k 0).toNat]::_)from h7)
  obtain⟨m5,r5,rfl,h9⟩:=Kd.sg h8
  obtain⟨p1,_,p3⟩:=sU h1 h6 k
  obtain⟨q1,_,_⟩:=sU h1 h6 (tr.getD k 0).toNat
  have hkm:k % n=k:=Nat.mod_eq_of_lt (by omega)
  have hvm:(tr.getD k 0).toNat % n<n:=Nat.mod_lt _ (by omega)
  have o1:zA (jP n) (.wd [qR n k] m2 (.sg 61 m3 (.wd [qR n (tr.getD k 0).toNat] m4 (.sg 59 m5 r5)))) = .inl ((k:Int),.sg 61 m3 (.wd [qR n (tr.getD k 0).toNat] m4 (.sg 59 m5 r5))):=by
   simp only[zA,kU,p1,p3,hkm]
   rw[if_pos (by omega)]
  have o2:zA (jP n) (.wd [qR n (tr.getD k 0).toNat] m4 (.sg 59 m5 r5)) = .inl ((((tr.getD k 0).toNat % n:Nat):Int),.sg 59 m5 r5):=by
   simp only[zA,kU,q1,p3]
   rw[if_pos hvm]
  obtain⟨f2,e3,h10,h11⟩:=wY (s1:=⟨r5,jP n,jn,an,trV n tr (k+1),[],dD n,0⟩) (ks:=ks) e2 h3 (by
   unfold oM
   rw[if_neg (by decide),if_neg (by decide),if_neg (by decide),if_pos rfl]
   simp only[rM,o1,mV,if_true,o2]
   simp only[trV,Int.toNat_natCast]) h9
  exact⟨r5,f2,e1.trans e3,h10,h11⟩
theorem aFo{f:Nat}{l:List PR}{ts:Toks}{jn an:Int}{tv:List Int}(hf:ts.size<f)(hl:∀x∈l,0≤x.1):∀(k:Nat) {ks},k≤l.length→k≤10→Kd ts (ruK n l k++ks)→∃r,aCS f ⟨ts,jP n,jn,an,tv,[],dD n,0⟩ ks ⟨r,jP n,jn,an,tv,D9 n l k,dD n,plV l k⟩
 | 0,ks,_,_,h=>⟨ts,f,rfl,h,hf⟩
 | k+1,ks,hk,h10,h=>by
  simp only[ruK,List.append_assoc,List.cons_append,List.nil_append]at h
  obtain⟨r,f1,e1,h2,h3⟩:=aFo (jn:=jn) (an:=an) (tv:=tv) hf hl k (by omega) (by omega) h
  obtain⟨m1,r1,e2,h4⟩:=Kd.wd h2
  obtain⟨d1,d2,d3,d4,d5⟩:=aEz (hl _ (dN (d:=L5) (show k<l.length by omega)))
  have hp:=aCH l k
  have v1:=H8 (l.getD k L5).2.1
  have v2:=H8 (l.getD k L5).2.2
  have hcl:(jP n).length=n:=(sU h1 h6 0).2.2
  obtain⟨r2,x1,x2⟩:=zU (wh:=b9 n) (aC2 h1 h6) (wM (l.getD k L5).2.1) (aCd _) h4 (by decide) (by decide) (by decide) hp.1 (by omega)
  obtain⟨m2,r3,rfl,x3⟩:=Kd.sg x2
  obtain⟨r4,y1,y2⟩:=zU (wh:=b9 n) (aC2 h1 h6) (wM (l.getD k L5).2.2) (aCd _) x3 (by decide) (by decide) (by decide) (show 0≤plV l k+(lvO (wM (l.getD k L5).2.1):Nat) by omega) (by omega)
  obtain⟨m3,r5,rfl,y3⟩:=Kd.sg y2
  obtain⟨f2,e3,g1,g2⟩:=wY (s1:=⟨r5,jP n,jn,an,tv,D9 n l (k+1),dD n,plV l (k+1)⟩) (ks:=ks) e2 h3 (by
   unfold oM
   rw[if_neg d2,if_neg d3,if_neg d4,if_neg d5,d1]
   simp only[G9,hcl]
   rw[if_neg (by rw[M8];omega)]
   simp only[x1,mV,if_true,y1]
   rfl) y3
  exact⟨r5,f2,e1.trans e3,g1,g2⟩
end
def tF(c j a:Int)(tr:List Int)(l:List PR):List (List UInt8)×Int×Int×List Int×RL :=
 (jP (iZ c),if j=0 then 0 else aG .or .u32 0 (jnV (iZ c) j),if j=0 then 0 else aG .or .u32 0 (jnV (iZ c) a),trV (iZ c) tr (min tr.length (iZ c)),D9 (iZ c) l (min l.length 10))
theorem aAd{c j a:Int}{tr:List Int}{l:List PR}(h:Pl c j a tr l){t:List UInt8}(ht:t.length≤4096)(hk:Kd (T t 0) (R2 c j a tr l)):L4 t = .inl (tF c j a tr l):=by
 have h1:=yU c
 have h6:=M7 c
 have hz:=M2 (t:=t) _ 0 (Nat.le_refl _) (by omega)
 unfold R2 at hk
 obtain⟨r1,f1,e1,k1,s1⟩:=aE7 h6 (f:=t.length+1) hk (by omega)
 obtain⟨r2,f2,e2,k2,s2⟩:=aEG h1 h6 k1 s1
 obtain⟨r3,f3,e3,k3,s3⟩:=aFl h1 h6 s2 (min tr.length (iZ c)) (Nat.min_le_right _ _) k2
 obtain⟨r4,f4,e4,k4,s4⟩:=aFo h1 h6 s3 (fun x hx=>(h.hl x hx).1.1) (min l.length 10) (ks:=[]) (Nat.min_le_left _ _) (Nat.min_le_right _ _) (by rw[List.append_nil];exact k3)
 obtain⟨m,hm⟩:=Kd.nil k4
 dsimp only at hm
 subst hm
 obtain⟨f5,rfl⟩:∃f5,f4=f5+1:=⟨f4 - 1,by omega⟩
 have hall:K8 (t.length+1) (J0 (T t 0)) = .inl _:=((e1.trans e2).trans e3).trans (e4.trans rfl)
 unfold L4
 rw[if_neg (by omega),hall]
 rfl
end Go.Proofs.YtacpjjgochokcaaDoor.T
namespace Go.Proofs.YtacpjjgochokcaaDoor.T
open Go Go.Tv Go.Proofs
theorem aEn{n k:Nat}(h:k<n):(t0P n).getD k 0=(k:Int):=by
 simp[t0P,h]
end Go.Proofs.YtacpjjgochokcaaDoor.T
namespace Go.Proofs.YtacpjjgochokcaaDoor.T
open Go Go.Tv Go.Proofs
theorem U32.wrap(x:Int):U32 (IntKind.u32.wrap x):=by
 have:IntKind.u32.wrap x=x % 4294967296:=by
  simp only[IntKind.wrap]
  rfl
 rw[this]
 exact⟨by omega,by omega⟩
theorem U32.zero:U32 0:=⟨by decide,by decide⟩
theorem U32.bits(op:BinOp)(x y:Int):U32 (aG op .u32 x y):=by
 unfold aG
 dsimp only
 split <;> exact U32.wrap _
theorem F0{α:Type}{K:Ty}{k:K.den}{v:α}:∀ {kv:List (K.den×α)},bF K kv k=some v→∃k',(k',v)∈kv
 | [],h=>by cases h
 | p::r,h=>by
  simp only[bF]at h
  split at h
  ·cases h;exact⟨p.1,.head _⟩
  ·obtain⟨k',h'⟩:=F0 h;exact⟨k',.tail _ h'⟩
theorem aGR(n:Nat)(w:List UInt8):U32 (nmV (dD n) w):=by
 unfold nmV
 cases h:look (dD n) w with
 | none=>exact⟨by decide,by decide⟩
 | some v =>
  obtain⟨w',hm⟩:=F0 h
  have:=(List.of_mem_zip hm).2
  simp only[List.mem_map]at this
  obtain⟨k,_,rfl⟩:=this
  exact U32.wrap _
theorem aC9(n:Nat):∀(ws:List (List UInt8)) (b:Int),U32 b→U32 (aBW (dD n) ws b)
 | [],b,h=>h
 | w::ws,b,h=>aC9 n ws _ (U32.bits _ _ _)
theorem l4(l:List Tree):gF (iK l)=cR l:=by
 match l with
 | []=>simp[iK,gF,cR]
 | [x]=>simp[iK,cR]
 | x::y::r =>
  simp only[iK,gF]
  rw[if_neg (by decide)]
  rfl
theorem iL(n:Nat)(wh:Int)(sets:fI):∀e:Ex,cR (eT n wh sets e)=e.lv
 | .nm k=>by simp[eT,cR,gF,Ex.lv]
 | .any=>by simp[eT,cR,gF,Ex.lv]
 | .set neg b=>by simp[eT,cR,gF,Ex.lv]
 | .star a=>by simp[eT,cR,gF,rQ,Ex.lv,l4,iL n wh sets a]
 | .plus a=>by simp[eT,cR,gF,rQ,Ex.lv,l4,iL n wh sets a]
 | .opt a=>by simp[eT,cR,gF,rQ,Ex.lv,l4,iL n wh sets a]
 | .alt a b=>by simp[eT,cR,gF,Ex.lv,l4,iL n wh sets a,iL n wh sets b]
 | .seq a b=>by simp[eT,gO,Ex.lv,iL n wh sets a,iL n wh sets b]
theorem qM{d:Nat}{l:List Tree}(hl:l.length≤1000)(h:∀t∈l,Tok d t):Tok (d+1) (iK l):=by
 match l with
 | []=>exact⟨U32.zero,by simp[iK,Tree.kids],fun k hk=>by simp[iK,Tree.kids]at hk⟩
 | [x]=>exact(h x (.head _)).mono (by omega)
 | x::y::r=>exact⟨U32.zero,hl,h⟩
theorem nI(n:Nat)(wh:Int)(sets:fI):∀e:Ex,(eT n wh sets e).length≤e.lv
 | .nm k=>by simp[eT,Ex.lv]
 | .any=>by simp[eT,Ex.lv]
 | .set neg b=>by simp[eT,Ex.lv]
 | .star a=>by have:=exTh_pos a;simp only[eT,Ex.lv,List.length_cons,List.length_nil];omega
 | .plus a=>by have:=exTh_pos a;simp only[eT,Ex.lv,List.length_cons,List.length_nil];omega
 | .opt a=>by have:=exTh_pos a;simp only[eT,Ex.lv,List.length_cons,List.length_nil];omega
 | .alt a b=>by have:=exTh_pos a;simp only[eT,Ex.lv,List.length_cons,List.length_nil];omega
 | .seq a b=>by have:=nI n wh sets a;have:=nI n wh sets b;simp only[eT,Ex.lv,List.length_append];omega
where exTh_pos:∀e:Ex,1≤e.lv
 | .nm _ | .any | .set _ _=>Nat.le_refl _
 | .star a | .plus a | .opt a=>exTh_pos a
 | .alt a _ | .seq a _=>by have:=exTh_pos a;simp only[Ex.lv];omega
theorem aEJ{e:Ex}(h:e.D≤3):e.lv≤8:=Nat.le_trans (Ex.lv_le e) (Nat.le_trans (Nat.pow_le_pow_right (by decide) h) (by decide))
theorem K9(n:Nat)(a:Ex){o:Int}{t:Tree}(h:a.D+1≤3)(ih:∀t∈eT n (b9 n) (dD n) a,Tok (2*a.D+1) t)(ht:t = .node o 0 [iK (eT n (b9 n) (dD n) a)]):Tok (2*(a.D+1)+1) t:=by
 subst ht
 have la:=Nat.le_trans (nI n (b9 n) (dD n) a) (aEJ (show a.D≤3 by omega))
 have ha:=qM (by omega) ih
 refine⟨U32.zero,by simp[Tree.kids],fun k hk=> ?_⟩
 simp only[Tree.kids,List.mem_singleton]at hk
 subst hk
 exact ha.mono (by omega)
theorem kD(n:Nat):∀(e:Ex),e.D≤3→∀t∈eT n (b9 n) (dD n) e,Tok (2*e.D+1) t
 | .nm k,_,t,ht=>by
  simp only[eT,List.mem_singleton]at ht
  subst ht
  exact⟨aGR _ _,by simp[Tree.kids],fun k hk=>by simp[Tree.kids]at hk⟩
 | .any,_,t,ht=>by
  simp only[eT,List.mem_singleton]at ht
  subst ht
  exact⟨U32.wrap _,by simp[Tree.kids],fun k hk=>by simp[Tree.kids]at hk⟩
 | .set neg b,_,t,ht=>by
  simp only[eT,List.mem_singleton]at ht
  subst ht
  refine⟨?_,by simp[Tree.kids],fun k hk=>by simp[Tree.kids]at hk⟩
  simp only[Tree.set]
  split
  ·exact U32.bits _ _ _
  ·exact aC9 n _ _ ⟨by decide,by decide⟩
 | .star a,h,t,ht=>K9 n a (by simp only[Ex.D]at h;omega) (fun t h'=>kD n a (by simp only[Ex.D]at h;omega) t h') (o:=4) (by simpa only [eT,List.mem_singleton]using ht)
 | .plus a,h,t,ht=>K9 n a (by simp only[Ex.D]at h;omega) (fun t h'=>kD n a (by simp only[Ex.D]at h;omega) t h') (o:=5) (by simpa only [eT,List.mem_singleton]using ht)
 | .opt a,h,t,ht=>K9 n a (by simp only[Ex.D]at h;omega) (fun t h'=>kD n a (by simp only[Ex.D]at h;omega) t h') (o:=6) (by simpa only [eT,List.mem_singleton]using ht)
 | .alt a b,h,t,ht=>by
  simp only[eT,List.mem_singleton]at ht
  simp only[Ex.D]at h
  subst ht
  have la:=Nat.le_trans (nI n (b9 n) (dD n) a) (aEJ (show a.D≤3 by omega))
  have lb:=Nat.le_trans (nI n (b9 n) (dD n) b) (aEJ (show b.D≤3 by omega))
  have ha:=qM (by omega) (fun t h'=>kD n a (by omega) t h')
  have hb:=qM (by omega) (fun t h'=>kD n b (by omega) t h')
  refine⟨U32.zero,by simp[Tree.kids],fun k hk=> ?_⟩
  simp only[Tree.kids,List.mem_cons,List.not_mem_nil,or_false]at hk
  rcases hk with rfl | rfl
  ·exact ha.mono (by simp only[Ex.D];omega)
  ·exact hb.mono (by simp only[Ex.D];omega)
 | .seq a b,h,t,ht=>by
  simp only[eT,List.mem_append]at ht
  simp only[Ex.D]at h ⊢
  rcases ht with ht | ht
  ·exact(kD n a (by omega) t ht).mono (by omega)
  ·exact(kD n b (by omega) t ht).mono (by omega)
theorem aBd(n:Nat)(l:List Int):Tok 8 (qU n (b9 n) (dD n) (wM l))∧gF (qU n (b9 n) (dD n) (wM l))≤8:=by
 unfold wM
 split
 ·exact⟨⟨U32.zero,by simp[qU,Tree.kids],fun k hk=>by simp[qU,Tree.kids]at hk⟩,by simp[qU,gF]⟩
 ·have hD:=N7 3 (l.take 30) 0
  have hlv:=aEJ hD
  have hlen:=Nat.le_trans (nI n (b9 n) (dD n) _) hlv
  simp only[qU]
  refine⟨(qM (by omega) (kD n _ hD)).mono (by omega),?_⟩
  rw[l4,iL]
  exact hlv
def mQ(r:RL):List Tree:=r.flatMap fun x=>[x.2.1,x.2.2]
theorem aAe(r:RL)(y):mQ (r++[y])=mQ r++[y.2.1,y.2.2]:=by simp[mQ]
theorem aA5(n:Nat)(l:List PR):∀k,(mQ (D9 n l k)).length=2*k∧(∀t∈mQ (D9 n l k),Tok 8 t)∧cR (mQ (D9 n l k))≤16*k
 | 0=>⟨rfl,fun t ht=>by simp[D9,mQ]at ht,by simp[D9,mQ,cR]⟩
 | k+1=>by
  obtain⟨h1,h2,h3⟩:=aA5 n l k
  have ha:=aBd n (l.getD k L5).2.1
  have hb:=aBd n (l.getD k L5).2.2
  simp only[D9,aAe]
  refine⟨by simp[h1];omega,fun t ht=> ?_,?_⟩
  ·simp only[List.mem_append,List.mem_cons,List.not_mem_nil,or_false]at ht
   rcases ht with ht | rfl | rfl
   ·exact h2 t ht
   ·exact ha.1
   ·exact hb.1
  ·rw[gO]
   simp only[cR]
   have:=ha.2
   have:=hb.2
   omega
end Go.Proofs.YtacpjjgochokcaaDoor.T
