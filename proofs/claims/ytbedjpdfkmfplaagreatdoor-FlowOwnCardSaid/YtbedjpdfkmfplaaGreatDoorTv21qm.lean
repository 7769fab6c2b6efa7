/- Mode First: the program's lines are those of the part alone. -/
import Derived.Test.YtbedjpdfkmfplaaGreatDoorTvFbm
namespace Go.Proofs.YtbedjpdfkmfplaaGreatDoor.T
open Go Go.Tv Go.Proofs
noncomputable section
def M1(fr:Nat)(b:Int):Int:=if b<0 then -1 else b+(fr:Int)
theorem aFz(cl:List cV)(o:List Int)(fr j:Nat):o.getD (fr+j+1) 0=(aV cl o fr j).2.2:=rfl
theorem aFy{cl:List cV}(hc:Cel cl){o:List Int}(ho:o.length=cl.length+1){fr n:Nat}(hn:fr+n≤cl.length)(wd:Int){tab:Int}(t0:1≤tab)(t1:tab≤64)(a:Nat):∀m k best cut full,k+m=n→a≤k →
  iter (iN cl o ((fr+n:Nat):Int) wd tab) (M1 fr best,((fr+cut:Nat):Int),jH (aV cl o fr) tab a (k - a),full,((fr+k+1:Nat):Int)) =
   some (M1 fr (tB (aV cl o fr) wd tab a m k best cut full).1,((fr+(tB (aV cl o fr) wd tab a m k best cut full).2:Nat):Int))
 | 0,k,best,cut,full,hk,ha=>by
  have q1:¬(((fr+k+1:Nat):Int)≤((fr+n:Nat):Int)):=by omega
  exact dO (by simp only[iN,q1,decide_false,Bool.false_eq_true,if_false,tB])
 | m+1,k,best,cut,full,hk,ha=>by
  have hl:=hc.1
  have hcR:=N4 cl o fr tab a
  obtain⟨b0,b1⟩:=zK hc t0 t1 (fr+a) (k - a) (by omega)
  obtain⟨e1,-,-⟩:=M7 (c:=cl.getD (fr+k) c0) b0 (by omega) t0 t1 (hc.2 _).1 (hc.2 _).2
  have hnx:K3 (cl.getD (fr+k) c0) (yJ cl tab (fr+a) (k - a)) tab=jH (aV cl o fr) tab a (k+1 - a):=by
   rw[←hcR,show k+1 - a=(k - a)+1 by omega]
   simp only[yJ]
   rw[show fr+a+(k - a)=fr+k by omega]
  rw[hnx,hcR]at e1
  obtain⟨e2,-,-⟩:=B0 (cl:=cl) o (show fr+k≤fr+k+1 by omega) (by omega) (by omega)
  have e3:=aFo cl (o:=o) (i:=fr+k+1) (by omega)
  have q1:((fr+k+1:Nat):Int)≤((fr+n:Nat):Int):=by omega
  have q2:IntKind.i64.wrap (((fr+k+1:Nat):Int) - 1)=((fr+k:Nat):Int):=nY (by omega)
  have q3:0≤((fr+k:Nat):Int):=by omega
  have q4:((fr+k:Nat):Int)<(cl.length:Int):=by omega
  have q5:IntKind.i64.wrap (((fr+k+1:Nat):Int)+1)=((fr+(k+1)+1:Nat):Int):=bM (by omega)
  have ht:(((eT cl (fr+k) (fr+k+1):Nat):Int) == ((fr+k+1:Nat):Int)) = !(lV (aV cl o fr k)):=by
   have hh:xV (cl.getD (fr+k) c0)=lV (aV cl o fr k):=rfl
   have:=(B0 (cl:=cl) o (show fr+k≤fr+k by omega) (by omega) (by omega)).2.2
   simp only[eT]
   rw[hh]
   cases he:lV (aV cl o fr k)with
   | true =>
    rw[if_pos ⟨by omega,rfl⟩,Bool.not_true,beq_eq_false_iff_ne]
    omega
   | false =>
    rw[if_neg (fun x=>by cases x.2)]
    simp
  have hfl:(if(((eT cl (fr+k) (fr+k+1):Nat):Int) == ((fr+k+1:Nat):Int))=true then some (jH (aV cl o fr) tab a (k+1 - a))else some full)=some (if lV (aV cl o fr k)=true then full else jH (aV cl o fr) tab a (k+1 - a)):=by
   rw[ht]
   cases lV (aV cl o fr k) <;> rfl
  have hst:tB (aV cl o fr) wd tab a (m+1) k best cut full=(if(if lV (aV cl o fr k)=true then full else jH (aV cl o fr) tab a (k+1 - a)) > wd then(best,cut)
    else tB (aV cl o fr) wd tab a m (k+1) (if(aV cl o fr k).2.2≠0∧((aV cl o fr k).2.2≠3∨(if lV (aV cl o fr k)=true then full else jH (aV cl o fr) tab a (k+1 - a))<wd)then((k+1:Nat):Int)else best) (k+1) (if lV (aV cl o fr k)=true then full else jH (aV cl o fr) tab a (k+1 - a))):=rfl
  rw[hst]
  generalize (if lV (aV cl o fr k)=true then full else jH (aV cl o fr) tab a (k+1 - a))=fl at hfl
  by_cases hw:fl > wd
  ·rw[if_pos hw]
   refine dO ?_
   simp only[iN,q1,q2,q3,q4,e1,e2,and_self,decide_true,if_true,Option.bind,Int.toNat_natCast]
   rw[hfl]
   simp only[hw,decide_true,if_true]
  ·rw[if_neg hw,←aFy hc ho hn wd t0 t1 a m (k+1) _ (k+1) fl (by omega) (by omega)]
   refine gV ?_
   have hb:((if(o.getD (fr+k+1) 0 != 0)=true then(if(o.getD (fr+k+1) 0 != 3)=true then some true else some (decide (fl<wd)))else some false).bind fun v27=>(if v27=true then some ((fr+k+1:Nat):Int)else some (M1 fr best))) =
     some (M1 fr (if(aV cl o fr k).2.2≠0∧((aV cl o fr k).2.2≠3∨fl<wd)then((k+1:Nat):Int)else best)):=by
    rw[aFz cl o fr k]
    have hcv:M1 fr ((k+1:Nat):Int)=((fr+k+1:Nat):Int):=by unfold M1;rw[if_neg (by omega)];omega
    by_cases g1:(aV cl o fr k).2.2=0
    ·rw[if_neg (c:=(aV cl o fr k).2.2≠0∧_) (fun x=>x.1 g1),if_neg (by simp[g1])]
     rfl
    ·rw[if_pos (c:=((aV cl o fr k).2.2 != 0)=true) (by simpa using g1)]
     by_cases g2:(aV cl o fr k).2.2=3
     ·rw[if_neg (c:=((aV cl o fr k).2.2 != 3)=true) (by simp[g2])]
      by_cases g3:fl<wd
      ·rw[if_pos (c:=(aV cl o fr k).2.2≠0∧_) ⟨g1,.inr g3⟩,decide_eq_true g3,hcv]
       rfl
      ·rw[if_neg (c:=(aV cl o fr k).2.2≠0∧_) (fun x=>x.2.elim (fun y=>y g2) g3),decide_eq_false g3]
       rfl
     ·rw[if_pos (c:=((aV cl o fr k).2.2 != 3)=true) (by simpa using g2),if_pos (c:=(aV cl o fr k).2.2≠0∧_) ⟨g1,.inl g2⟩,hcv]
      rfl
   simp only[iN,q1,q2,q3,q4,e1,e2,and_self,decide_true,if_true,Option.bind_some,Int.toNat_natCast]
   rw[hfl]
   simp only[hw,decide_false,Bool.false_eq_true,if_false,e3,Option.bind_some,q5]
   rw[←Option.bind_assoc,hb]
   rfl
theorem pQ(cl:List cV)(o:List Int)(fr:Nat){k:Nat}(h:0<k):o.getD (fr+k) 0=opR (aV cl o fr) k:=by
 cases k with
 | zero=>omega
 | succ k=>rfl
theorem aCF{cl:List cV}(hc:Cel cl){o:List Int}(ho:o.length=cl.length+1){fr n:Nat}(hn:fr+n≤cl.length)(wd:Int){tab:Int}(t0:1≤tab)(t1:tab≤64)(x4 x5 x6:Int)(x7:Option Nat){a:Nat}(ha:a<n):
  pR cl o ((fr+a:Nat):Int) ((fr+n:Nat):Int) wd tab x4 x5 x6 x7 =
   some (((fr+a:Nat):Int),(((fr+(nJ (aV cl o fr) n wd tab a).1:Nat):Int),(vF (aV cl o fr) tab a (nJ (aV cl o fr) n wd tab a).1 (nJ (aV cl o fr) n wd tab a).2,(nJ (aV cl o fr) n wd tab a).2))):=by
 have hl:=hc.1
 have hw:IntKind.i64.wrap (((fr+a:Nat):Int)+1)=((fr+a+1:Nat):Int):=bM (by omega)
 have e1:=aFy hc ho hn wd t0 t1 a (n - a) a (-1) (a+1) 0 (by omega) (Nat.le_refl _)
 have hin:=N2 (aV cl o fr) wd tab a (n - a) a (-1) (a+1) 0 (Nat.le_refl _) (.inl rfl) (by omega) (by omega)
 rw[Nat.sub_self]at e1
 simp only[jH]at e1
 unfold pR
 have hcv:M1 fr (-1) = -1:=rfl
 rw[hcv,show fr+(a+1)=fr+a+1 by omega]at e1
 rw[hw,e1,Option.bind_some]
 unfold nJ
 generalize tB (aV cl o fr) wd tab a (n - a) a (-1) (a+1) 0=p at hin
 obtain⟨best,cut⟩:=p
 simp only at hin ⊢
 obtain⟨hb,hc1,hc2⟩:=hin
 by_cases hp:0≤best
 ·obtain⟨b,rfl⟩:∃b:Nat,best=(b:Int):=⟨best.toNat,by omega⟩
  have hcv:M1 fr (b:Int)=((fr+b:Nat):Int):=by unfold M1;rw[if_neg (by omega)];omega
  rw[if_pos (c:=(0:Int)≤_) hp,hcv,Int.toNat_natCast]
  rw[if_pos (by rw[decide_eq_true_eq];omega),if_pos (by omega),Int.toNat_natCast,C4 hc o t0 t1 (by omega) (by omega),qL cl o fr tab (by omega),pQ cl o fr (by omega)]
  rfl
 ·have hb1:best = -1:=by omega
  subst hb1
  rw[if_neg (c:=(0:Int)≤_) hp,hcv,if_neg (by decide)]
  have hcn:cut≤n:=by omega
  by_cases h1:cut=n
  ·subst h1
   rw[if_pos (by simp),if_pos (by omega),Int.toNat_natCast]
   simp only[Option.bind_some,Int.lt_irrefl,decide_false,Bool.false_eq_true,if_false,Nat.lt_irrefl,false_and,if_true]
   rw[C4 hc o t0 t1 (by omega) (by omega),qL cl o fr tab (by omega),pQ cl o fr (by omega)]
   rfl
  ·have h2:((((fr+cut:Nat):Int)) == ((fr+n:Nat):Int))=false:=by rw[beq_eq_false_iff_ne];omega
   have h3:((fr+cut:Nat):Int)<((fr+n:Nat):Int):=by omega
   have h4:cut<n:=by omega
   simp only[h2,Bool.false_eq_true,if_false,Option.bind_some,h3,decide_true,if_true,h4,true_and,h1]
   rw[if_pos (c:=0≤((fr+cut:Nat):Int)∧_) (by omega),Int.toNat_natCast,pQ cl o fr (by omega)]
   by_cases h5:opR (aV cl o fr) cut=1
   ·simp only[h5,Option.bind_some,if_true,BEq.rfl]
    rw[C4 hc o t0 t1 (by omega) (by omega),qL cl o fr tab (by omega)]
    rfl
   ·have h6:(opR (aV cl o fr) cut == 1)=false:=by rw[beq_eq_false_iff_ne];exact h5
    simp only[h5,h6,Option.bind_some,if_false,Bool.false_eq_true]
    rw[C4 hc o t0 t1 (by omega) (by omega),qL cl o fr tab (by omega)]
    rfl
theorem aFA(d:Dt)(tab:Int)(a b fr:Nat)(e:Int):eE [mkL d tab a b e] (fr:Int)=[(((fr+a:Nat):Int),(((fr+b:Nat):Int),(vF d tab a b e,e)))]:=by
 simp only[eE,mkL,List.map_cons,List.map_nil]
 rw[show(a:Int)+(fr:Int)=((fr+a:Nat):Int) by omega,show(b:Int)+(fr:Int)=((fr+b:Nat):Int) by omega]
theorem aAu{cl:List cV}(hc:Cel cl){o:List Int}(ho:o.length=cl.length+1){fr n:Nat}(hn:fr+n≤cl.length)(wd:Int){tab:Int}(t0:1≤tab)(t1:tab≤64)(x4 x5 x6:Int)(x7:Option Nat):
  lM cl o (fr:Int) ((fr+n:Nat):Int) wd tab x4 x5 x6 x7=some (eE (iI (aV cl o fr) n wd tab n 0) (fr:Int)):=by
 have hl:=hc.1
 have key:∀m a out,a≤n→n≤a+m→out.length≤a→iter (fU cl o ((fr+n:Nat):Int) wd tab x4 x5 x6 x7) (((fr+a:Nat):Int),out)=some (out++eE (iI (aV cl o fr) n wd tab m a) (fr:Int)):=fun m=>by
  induction m with
  | zero =>
   intro a out h1 h2 h3
   obtain rfl:a=n:=by omega
   have q1:¬(((fr+a:Nat):Int)<((fr+a:Nat):Int)):=by omega
   exact dO (by simp only[fU,q1,decide_false,Bool.false_eq_true,if_false,iI,eE,List.map_nil,List.append_nil])
  | succ m ih =>
   intro a out h1 h2 h3
   by_cases ha:a<n
   ·have hin:=V1 (aV cl o fr) wd tab ha
    have q1:((fr+a:Nat):Int)<((fr+n:Nat):Int):=by omega
    simp only[iI]
    rw[if_pos ha,show ∀(x:cV) l,eE (x::l) (fr:Int)=eE [x] (fr:Int)++eE l (fr:Int)from fun _ _=>rfl,aFA,←List.append_assoc]
    rw[←ih _ _ hin.2 (by omega) (by simp;omega)]
    refine gV ?_
    simp only[fU,q1,decide_true,if_true,aCF hc ho hn wd t0 t1 x4 x5 x6 x7 ha,Option.bind_some,List.length_singleton]
    rw[if_pos (by omega)]
   ·obtain rfl:a=n:=by omega
    have q1:¬(((fr+a:Nat):Int)<((fr+a:Nat):Int)):=by omega
    simp only[iI]
    rw[if_neg ha]
    exact dO (by simp only[fU,q1,decide_false,Bool.false_eq_true,if_false,eE,List.map_nil,List.append_nil])
 have:=key n 0 [] (by omega) (by omega) (by simp)
 rw[Nat.add_zero,List.nil_append]at this
 unfold lM
 rw[this]
 rfl
end
end Go.Proofs.YtbedjpdfkmfplaaGreatDoor.T
namespace Go.Proofs.YtbedjpdfkmfplaaGreatDoor.T
open Go Go.Tv Go.Proofs
noncomputable section
abbrev Wy:=Int×Int×Int×Int×Int×Option Nat
def yF(c:Wy)(op e n g:Int)(last:Bool):Int×Bool:=(gF [] [op] 0 e n g last c.1 c.2.1 c.2.2.1 c.2.2.2.1 c.2.2.2.2.1 c.2.2.2.2.2).getD (0,false)
def iY(d:Dt)(n:Nat)(c:Wy)(all:Nat→Int×Int)(a:Nat):Nat→Nat→Int→Int→Int→Int→Int→Int×Int
 | 0,_,cost,to,_,_,_=>(cost,to)
 | m+1,k,cost,to,full,sp,gp =>
  let s:=if(d k).2.1=1 then IntKind.i64.wrap (sp+1)else sp
  let f:=if lV (d k)=true then(full,gp)else(jH d c.2.1 a (k+1 - a),s)
  if f.1 > c.1 then(cost,to)
  else if(d k).2.2=0∨(k+1<n∧(all (k+1)).2<0)then iY d n c all a m (k+1) cost to f.1 s f.2
  else
   let p:=yF c (opR d a) (d k).2.2 (if(d k).2.2=3 then IntKind.i64.wrap (f.1+1)else f.1) f.2 (k+1 == n)
   if p.2=true∧(to<0∨IntKind.i64.wrap (p.1+(all (k+1)).1)<cost)then iY d n c all a m (k+1) (IntKind.i64.wrap (p.1+(all (k+1)).1)) ((k+1:Nat):Int) f.1 s f.2
   else iY d n c all a m (k+1) cost to f.1 s f.2
def M3(d:Dt)(n:Nat)(c:Wy)(a:Nat)(l:List (Int×Int)):Int×Int :=
 if a=0∨opR d a≠0 then iY d n c (fun k=>l.getD (k - a - 1) (0,0)) a (n - a) a 0 (-1) 0 0 0 else(0,-1)
def fE(d:Dt)(n:Nat)(c:Wy):Nat→List (Int×Int)
 | 0=>[(0,0)]
 | j+1=>M3 d n c (n - (j+1)) (fE d n c j)::fE d n c j
def nU(d:Dt)(n:Nat)(tab:Int)(T:List (Int×Int)):Nat→Nat→List cV
 | 0,_=>[]
 | m+1,a=>if a<n then mkL d tab a (T.getD a (0,0)).2.toNat (opR d (T.getD a (0,0)).2.toNat)::nU d n tab T m (T.getD a (0,0)).2.toNat else[]
def A2(d:Dt)(n:Nat)(c:Wy):Option (List cV) :=
 if n=0 then some []else if((fE d n c n).getD 0 (0,0)).2<0 then none else some (nU d n c.2.1 (fE d n c n) n 0)
def hU(d:Dt)(n:Nat)(c:Wy):List cV×Bool :=
 if c.2.2.1=1 then(match A2 d n c with
  | some l=>(l,false)
  | none=>(iI d n c.1 c.2.1 n 0,true))else(iI d n c.1 c.2.1 n 0,false)
theorem C2(d:Dt)(n:Nat)(c:Wy)(all:Nat→Int×Int)(a:Nat):∀m k cost to full sp gp,a≤k→k+m=n→(to = -1∨((a:Int)<to∧to≤(n:Int)∧(to<(n:Int)→0≤(all to.toNat).2))) →
  (iY d n c all a m k cost to full sp gp).2 = -1∨((a:Int)<(iY d n c all a m k cost to full sp gp).2∧(iY d n c all a m k cost to full sp gp).2≤(n:Int)∧((iY d n c all a m k cost to full sp gp).2<(n:Int)→0≤(all (iY d n c all a m k cost to full sp gp).2.toNat).2))
 | 0,k,cost,to,full,sp,gp,_,_,h=>h
 | m+1,k,cost,to,full,sp,gp,h0,h1,h=>by
  simp only[iY]
  generalize (if lV (d k)=true then(full,gp)else(jH d c.2.1 a (k+1 - a),(if(d k).2.1=1 then IntKind.i64.wrap (sp+1)else sp)))=f
  generalize yF c (opR d a) (d k).2.2 (if(d k).2.2=3 then IntKind.i64.wrap (f.1+1)else f.1) f.2 (k+1 == n)=p
  split
  ·exact h
  ·split
   ·exact C2 d n c all a m (k+1) _ _ _ _ _ (by omega) (by omega) h
   ·rename_i hn
    split
    ·refine C2 d n c all a m (k+1) _ _ _ _ _ (by omega) (by omega) (.inr ⟨by omega,by omega,fun hlt=> ?_⟩)
     rw[Int.toNat_natCast]
     have:¬(all (k+1)).2<0:=fun hh=>hn (.inr ⟨by omega,hh⟩)
     omega
    ·exact C2 d n c all a m (k+1) _ _ _ _ _ (by omega) (by omega) h
theorem uS{d d':Dt}{n:Nat}(h:∀j,j<n→d j=d' j)(c:Wy)(all all':Nat→Int×Int)(a:Nat)(ha:a≤n)(hal:∀k,a<k→k≤n→all k=all' k):∀m k cost to full sp gp,a≤k→k+m=n →
  iY d n c all a m k cost to full sp gp=iY d' n c all' a m k cost to full sp gp
 | 0,_,_,_,_,_,_,_,_=>rfl
 | m+1,k,cost,to,full,sp,gp,h0,h1=>by
  simp only[iY]
  rw[h k (by omega),rD h c.2.1 a (k+1 - a) (by omega),hal (k+1) (by omega) (by omega),m6 h ha]
  generalize (if lV (d' k)=true then(full,gp)else(jH d' c.2.1 a (k+1 - a),(if(d' k).2.1=1 then IntKind.i64.wrap (sp+1)else sp)))=f
  generalize yF c (opR d' a) (d' k).2.2 (if(d' k).2.2=3 then IntKind.i64.wrap (f.1+1)else f.1) f.2 (k+1 == n)=p
  split
  ·rfl
  ·split
   ·exact uS h c all all' a ha hal m (k+1) _ _ _ _ _ (by omega) (by omega)
   ·split <;> exact uS h c all all' a ha hal m (k+1) _ _ _ _ _ (by omega) (by omega)
theorem Q8{d d':Dt}{n:Nat}(h:∀j,j<n→d j=d' j)(c:Wy):∀j,j≤n→fE d n c j=fE d' n c j
 | 0,_=>rfl
 | j+1,hj=>by
  simp only[fE,Q8 h c j (by omega)]
  unfold M3
  rw[m6 h (show n - (j+1)≤n by omega),uS h c _ _ (n - (j+1)) (by omega) (fun _ _ _=>rfl) _ _ _ _ _ _ _ (Nat.le_refl _) (by omega)]
theorem aFD(d:Dt)(n:Nat)(c:Wy):∀j i,j≤n→i<j→((fE d n c j).getD i (0,0)).2 = -1∨(((n - j+i:Nat):Int)<((fE d n c j).getD i (0,0)).2∧((fE d n c j).getD i (0,0)).2≤(n:Int) ∧
   (((fE d n c j).getD i (0,0)).2<(n:Int)→0≤((fE d n c j).getD (((fE d n c j).getD i (0,0)).2.toNat - (n - j)) (0,0)).2))
 | 0,i,_,hi=>by omega
 | j+1,0,hj,_=>by
  simp only[fE,List.getD_cons_zero,Nat.add_zero]
  unfold M3
  split
  ·have:=C2 d n c (fun k=>(fE d n c j).getD (k - (n - (j+1)) - 1) (0,0)) (n - (j+1)) (n - (n - (j+1))) (n - (j+1)) 0 (-1) 0 0 0 (Nat.le_refl _) (by omega) (.inl rfl)
   generalize iY d n c (fun k=>(fE d n c j).getD (k - (n - (j+1)) - 1) (0,0)) (n - (j+1)) (n - (n - (j+1))) (n - (j+1)) 0 (-1) 0 0 0=r at this
   rcases this with e | ⟨e1,e2,e3⟩
   ·exact .inl e
   ·refine .inr ⟨e1,e2,fun hlt=> ?_⟩
    have:=e3 hlt
    obtain⟨x,hx⟩:∃x,r.2.toNat - (n - (j+1))=x+1:=⟨r.2.toNat - (n - (j+1)) - 1,by omega⟩
    rw[hx,List.getD_cons_succ]
    rw[show r.2.toNat - (n - (j+1)) - 1=x by omega]at this
    exact this
  ·exact .inl rfl
 | j+1,i+1,hj,hi=>by
  have ih:=aFD d n c j i (by omega) (by omega)
  simp only[fE,List.getD_cons_succ]
  generalize (fE d n c j).getD i (0,0)=r at ih
  rcases ih with e | ⟨e1,e2,e3⟩
  ·exact .inl e
  ·refine .inr ⟨by omega,e2,fun hlt=> ?_⟩
   have:=e3 hlt
   obtain⟨x,hx⟩:∃x,r.2.toNat - (n - (j+1))=x+1:=⟨r.2.toNat - (n - (j+1)) - 1,by omega⟩
   rw[hx,List.getD_cons_succ,show x=r.2.toNat - (n - j) by omega]
   exact this
theorem J4{d d':Dt}{n:Nat}(h:∀j,j<n→d j=d' j)(tab:Int)(T:List (Int×Int))(hT:∀a,a<n→0≤(T.getD a (0,0)).2→(a:Int)<(T.getD a (0,0)).2∧(T.getD a (0,0)).2≤(n:Int)∧((T.getD a (0,0)).2<(n:Int)→0≤(T.getD (T.getD a (0,0)).2.toNat (0,0)).2)):∀m a,(a<n→0≤(T.getD a (0,0)).2)→nU d n tab T m a=nU d' n tab T m a
 | 0,_,_=>rfl
 | m+1,a,ha=>by
  simp only[nU]
  by_cases hlt:a<n
  ·obtain⟨h1,h2,h3⟩:=hT a hlt (ha hlt)
   rw[if_pos hlt,if_pos hlt,J4 h tab T hT m _ (fun hh=>h3 (by omega)),m6 h (k:=(T.getD a (0,0)).2.toNat) (by omega)]
   unfold mkL
   rw[yY h tab (by omega) (by omega)]
  ·rw[if_neg hlt,if_neg hlt]
theorem X4(d:Dt)(n:Nat)(c:Wy):∀a,a<n→0≤((fE d n c n).getD a (0,0)).2→(a:Int)<((fE d n c n).getD a (0,0)).2∧((fE d n c n).getD a (0,0)).2≤(n:Int)∧(((fE d n c n).getD a (0,0)).2<(n:Int)→0≤((fE d n c n).getD ((fE d n c n).getD a (0,0)).2.toNat (0,0)).2):=fun a ha h=>by
 rcases aFD d n c n a (Nat.le_refl _) ha with e | ⟨e1,e2,e3⟩
 ·omega
 ·rw[Nat.sub_self,Nat.sub_zero]at e3
  exact⟨by omega,e2,e3⟩
theorem aDs{d d':Dt}{n:Nat}(h:∀j,j<n→d j=d' j)(c:Wy):hU d n c=hU d' n c:=by
 have hb:A2 d n c=A2 d' n c:=by
  unfold A2
  rw[Q8 h c n (Nat.le_refl _)]
  by_cases h0:n=0
  ·rw[if_pos h0,if_pos h0]
  ·rw[if_neg h0,if_neg h0]
   by_cases h1:((fE d' n c n).getD 0 (0,0)).2<0
   ·rw[if_pos h1,if_pos h1]
   ·rw[if_neg h1,if_neg h1,J4 h c.2.1 _ (X4 d' n c) n 0 (fun _=>by omega)]
 unfold hU
 rw[hb,zL h]
end
end Go.Proofs.YtbedjpdfkmfplaaGreatDoor.T
