/- Mode Best: the program's lines are those of the part alone. -/
import Derived.Test.YtbedjpdfkmfplaaGreatDoorTv21qm
namespace Go.Proofs.YtbedjpdfkmfplaaGreatDoor.T
open Go Go.Tv Go.Proofs
noncomputable section
theorem aF8{o:List Int}{fr:Nat}(hf:fr<o.length)(cl:List cV){x:Int}(hx:(o.getD fr 0 == 3)=(x == 3))(c:Wy)(e n g:Int)(last:Bool):gF cl o (fr:Int) e n g last c.1 c.2.1 c.2.2.1 c.2.2.2.1 c.2.2.2.2.1 c.2.2.2.2.2=some (yF c x e n g last):=by
 obtain⟨v,b,hp⟩:=aGO (o:=[x]) (fr:=0) (by simp) [] e n g last c.1 c.2.1 c.2.2.1 c.2.2.2.1 c.2.2.2.2.1 c.2.2.2.2.2
 have hp':gF [] [x] 0 e n g last c.1 c.2.1 c.2.2.1 c.2.2.2.1 c.2.2.2.2.1 c.2.2.2.2.2=some (v,b):=hp
 unfold yF
 rw[hp',Option.getD_some,←hp']
 have g1:(0≤(fr:Int)∧(fr:Int)<(o.length:Int))=True:=eq_true (by omega)
 have g2:(0≤(0:Int)∧(0:Int)<(([x]:List Int).length:Int))=True:=eq_true (by simp)
 have g3:([x]:List Int).getD (0:Int).toNat 0=x:=rfl
 unfold gF
 simp only[g1,g2,g3,if_true,Int.toNat_natCast,hx]
theorem wD(fr:Nat)(b:Int):M1 fr b<0↔b<0:=by unfold M1;split <;> omega
theorem aFI(fr k:Nat):M1 fr ((k:Nat):Int)=((fr+k:Nat):Int):=by unfold M1;rw[if_neg (by omega)];omega
theorem aDA{cl:List cV}(hc:Cel cl){o:List Int}(ho:o.length=cl.length+1){fr n:Nat}(hn:fr+n≤cl.length)(c:Wy)(t0:1≤c.2.1)(t1:c.2.1≤64){a:Nat}(hp:(o.getD (fr+a) 0 == 3)=(opR (aV cl o fr) a == 3)){all:List (Int×Int)}(hal:all.length=n+1){F:Nat→Int×Int}
  (hF:∀k,a<k→k≤n→(all.getD k (0,0)).1=(F k).1∧(k<n→(all.getD k (0,0)).2=M1 fr (F k).2)):∀m k cost to full sp gp,k+m=n→a≤k →
  iter (fL cl o ((fr+a:Nat):Int) (fr:Int) ((fr+n:Nat):Int) all c.1 c.2.1 c.2.2.1 c.2.2.2.1 c.2.2.2.2.1 c.2.2.2.2.2) (cost,M1 fr to,jH (aV cl o fr) c.2.1 a (k - a),full,sp,gp,((fr+k+1:Nat):Int)) =
   some ((iY (aV cl o fr) n c F a m k cost to full sp gp).1,M1 fr (iY (aV cl o fr) n c F a m k cost to full sp gp).2)
 | 0,k,cost,to,full,sp,gp,hk,ha=>by
  have q1:¬(((fr+k+1:Nat):Int)≤((fr+n:Nat):Int)):=by omega
  exact dO (by simp only[fL,q1,decide_false,Bool.false_eq_true,if_false,iY])
 | m+1,k,cost,to,full,sp,gp,hk,ha=>by
  have hl:=hc.1
  have hcR:=N4 cl o fr c.2.1 a
  obtain⟨b0,b1⟩:=zK hc t0 t1 (fr+a) (k - a) (by omega)
  obtain⟨e1,-,-⟩:=M7 (c:=cl.getD (fr+k) c0) b0 (by omega) t0 t1 (hc.2 _).1 (hc.2 _).2
  have hnx:K3 (cl.getD (fr+k) c0) (yJ cl c.2.1 (fr+a) (k - a)) c.2.1=jH (aV cl o fr) c.2.1 a (k+1 - a):=by
   rw[←hcR,show k+1 - a=(k - a)+1 by omega]
   simp only[yJ]
   rw[show fr+a+(k - a)=fr+k by omega]
  rw[hnx,hcR]at e1
  obtain⟨e2,-,-⟩:=B0 (cl:=cl) o (show fr+k≤fr+k+1 by omega) (by omega) (by omega)
  have e3:=aFo cl (o:=o) (i:=fr+k+1) (by omega)
  rw[aFz cl o fr k]at e3
  have q1:((fr+k+1:Nat):Int)≤((fr+n:Nat):Int):=by omega
  have q2:IntKind.i64.wrap (((fr+k+1:Nat):Int) - 1)=((fr+k:Nat):Int):=nY (by omega)
  have q3:0≤((fr+k:Nat):Int):=by omega
  have q4:((fr+k:Nat):Int)<(cl.length:Int):=by omega
  have q5:IntKind.i64.wrap (((fr+k+1:Nat):Int)+1)=((fr+(k+1)+1:Nat):Int):=bM (by omega)
  have q6:IntKind.i64.wrap (((fr+k+1:Nat):Int) - (fr:Int))=((k+1:Nat):Int):=by rw[wrap_i64 (by omega) (by omega)];omega
  have q7:0≤((k+1:Nat):Int)∧((k+1:Nat):Int)<(all.length:Int):=by omega
  have ht:(((eT cl (fr+k) (fr+k+1):Nat):Int) == ((fr+k+1:Nat):Int)) = !(lV (aV cl o fr k)):=by
   have hh:xV (cl.getD (fr+k) c0)=lV (aV cl o fr k):=rfl
   have:=(B0 (cl:=cl) o (show fr+k≤fr+k by omega) (by omega) (by omega)).2.2
   simp only[eT]
   rw[hh]
   cases he:lV (aV cl o fr k)with
   | true =>
    rw[if_pos ⟨by omega,rfl⟩,Bool.not_true,beq_eq_false_iff_ne]
    omega
   | false =>
    rw[if_neg (fun x=>by cases x.2)]
    simp
  have hs:(if((cl.getD (fr+k) c0).2.2.2 == 1)=true then some (IntKind.i64.wrap (sp+1))else some sp)=some (if(aV cl o fr k).2.1=1 then IntKind.i64.wrap (sp+1)else sp):=by
   show(if((aV cl o fr k).2.1 == 1)=true then some (IntKind.i64.wrap (sp+1))else some sp)=_
   by_cases h:(aV cl o fr k).2.1=1
   ·rw[if_pos h,if_pos (by simpa using h)]
   ·rw[if_neg h,if_neg (by simpa using h)]
  have hst:iY (aV cl o fr) n c F a (m+1) k cost to full sp gp=(
    let s:=if(aV cl o fr k).2.1=1 then IntKind.i64.wrap (sp+1)else sp
    let f:=if lV (aV cl o fr k)=true then(full,gp)else(jH (aV cl o fr) c.2.1 a (k+1 - a),s)
    if f.1 > c.1 then(cost,to)
    else if(aV cl o fr k).2.2=0∨(k+1<n∧(F (k+1)).2<0)then iY (aV cl o fr) n c F a m (k+1) cost to f.1 s f.2
    else
     let p:=yF c (opR (aV cl o fr) a) (aV cl o fr k).2.2 (if(aV cl o fr k).2.2=3 then IntKind.i64.wrap (f.1+1)else f.1) f.2 (k+1 == n)
     if p.2=true∧(to<0∨IntKind.i64.wrap (p.1+(F (k+1)).1)<cost)then iY (aV cl o fr) n c F a m (k+1) (IntKind.i64.wrap (p.1+(F (k+1)).1)) ((k+1:Nat):Int) f.1 s f.2
     else iY (aV cl o fr) n c F a m (k+1) cost to f.1 s f.2):=rfl
  rw[hst]
  clear hst
  simp only
  generalize (if(aV cl o fr k).2.1=1 then IntKind.i64.wrap (sp+1)else sp)=s at hs
  have hfl:(if(((eT cl (fr+k) (fr+k+1):Nat):Int) == ((fr+k+1:Nat):Int))=true then some (jH (aV cl o fr) c.2.1 a (k+1 - a),s)else some (full,gp))=some (if lV (aV cl o fr k)=true then(full,gp)else(jH (aV cl o fr) c.2.1 a (k+1 - a),s)):=by
   rw[ht]
   cases lV (aV cl o fr k) <;> rfl
  generalize (if lV (aV cl o fr k)=true then(full,gp)else(jH (aV cl o fr) c.2.1 a (k+1 - a),s))=f at hfl
  obtain⟨f1,f2⟩:=f
  obtain⟨r1,r2⟩:=hF (k+1) (by omega) (by omega)
  simp only
  have ih:=aDA hc ho hn c t0 t1 hp hal hF m (k+1)
  by_cases hw:f1 > c.1
  ·rw[if_pos hw]
   refine dO ?_
   simp only[fL,q1,q2,q3,q4,e1,e2,and_self,decide_true,if_true,Option.bind_some,Int.toNat_natCast]
   rw[hs,Option.bind_some,hfl]
   simp only[Option.bind_some,hw,decide_true,if_true]
  ·rw[if_neg hw]
   have h36:(if(!((aV cl o fr k).2.2 != 0))=true then some true else(if decide (((fr+k+1:Nat):Int)<((fr+n:Nat):Int))=true then some (decide ((all.getD (k+1) (0,0)).2<0))else some false))=some (decide ((aV cl o fr k).2.2=0∨(k+1<n∧(F (k+1)).2<0))):=by
    by_cases g1:(aV cl o fr k).2.2=0
    ·rw[if_pos (by simp[g1]),decide_eq_true (.inl g1)]
    ·rw[if_neg (by simp[g1])]
     by_cases g2:k+1<n
     ·rw[if_pos (by rw[decide_eq_true_eq];omega),r2 g2]
      have:(M1 fr (F (k+1)).2<0)=((aV cl o fr k).2.2=0∨k+1<n∧(F (k+1)).2<0):=propext ⟨fun h=> .inr ⟨g2,(wD _ _).1 h⟩,fun h=>(wD _ _).2 (h.elim (fun x=>absurd x g1) (fun x=>x.2))⟩
      simp only[this]
     ·rw[if_neg (by rw[decide_eq_true_eq];omega),decide_eq_false (fun h=>h.elim g1 (fun x=>g2 x.1))]
   by_cases hsk:(aV cl o fr k).2.2=0∨(k+1<n∧(F (k+1)).2<0)
   ·rw[if_pos hsk,←ih _ _ _ _ _ (by omega) (by omega)]
    refine gV ?_
    simp only[fL,q1,q2,q3,q4,e1,e2,and_self,decide_true,if_true,Option.bind_some,Int.toNat_natCast]
    rw[hs,Option.bind_some,hfl]
    simp only[Option.bind_some,hw,decide_false,Bool.false_eq_true,if_false,e3,q6,q7,and_self,if_true,Int.toNat_natCast]
    rw[h36,decide_eq_true hsk]
    simp only[Option.bind_some,if_true,q5]
   ·rw[if_neg hsk]
    have h37:(if((aV cl o fr k).2.2 == 3)=true then some (IntKind.i64.wrap (f1+1))else some f1)=some (if(aV cl o fr k).2.2=3 then IntKind.i64.wrap (f1+1)else f1):=by
     by_cases g:(aV cl o fr k).2.2=3
     ·rw[if_pos g,if_pos (by simpa using g)]
     ·rw[if_neg g,if_neg (by simpa using g)]
    have hpr:=aF8 (o:=o) (fr:=fr+a) (by omega) cl hp c (aV cl o fr k).2.2 (if(aV cl o fr k).2.2=3 then IntKind.i64.wrap (f1+1)else f1) f2 (k+1 == n)
    have hlast:(((fr+k+1:Nat):Int) == ((fr+n:Nat):Int))=(k+1 == n):=by
     by_cases g:k+1=n
     ·rw[beq_iff_eq.2 g,beq_iff_eq];omega
     ·rw[beq_eq_false_iff_ne.2 g,beq_eq_false_iff_ne];omega
    generalize yF c (opR (aV cl o fr) a) (aV cl o fr k).2.2 (if(aV cl o fr k).2.2=3 then IntKind.i64.wrap (f1+1)else f1) f2 (k+1 == n)=p at hpr
    obtain⟨p1,p2⟩:=p
    simp only
    have h38:(if p2=true then(if decide (M1 fr to<0)=true then some true else some (decide (IntKind.i64.wrap (p1+(F (k+1)).1)<cost)))else some false)=some (decide (p2=true∧(to<0∨IntKind.i64.wrap (p1+(F (k+1)).1)<cost))):=by
     cases p2 with
     | false=>simp
     | true =>
      by_cases g:to<0
      ·have:M1 fr to<0:=(wD _ _).2 g
       simp[this,g]
      ·have:¬M1 fr to<0:=fun h=>g ((wD _ _).1 h)
       simp[this,g]
    by_cases hbt:p2=true∧(to<0∨IntKind.i64.wrap (p1+(F (k+1)).1)<cost)
    ·rw[if_pos hbt,←ih _ _ _ _ _ (by omega) (by omega),aFI]
     refine gV ?_
     simp only[fL,q1,q2,q3,q4,e1,e2,and_self,decide_true,if_true,Option.bind_some,Int.toNat_natCast]
     rw[hs,Option.bind_some,hfl]
     simp only[Option.bind_some,hw,decide_false,Bool.false_eq_true,if_false,e3,q6,q7,and_self,if_true,Int.toNat_natCast]
     rw[h36,decide_eq_false hsk,Option.bind_some,if_neg (by decide),h37,Option.bind_some,hlast,hpr,Option.bind_some]
     simp only[r1]
     rw[h38,decide_eq_true hbt]
     simp only[Option.bind_some,if_true,q5]
     rfl
    ·rw[if_neg hbt,←ih _ _ _ _ _ (by omega) (by omega)]
     refine gV ?_
     simp only[fL,q1,q2,q3,q4,e1,e2,and_self,decide_true,if_true,Option.bind_some,Int.toNat_natCast]
     rw[hs,Option.bind_some,hfl]
     simp only[Option.bind_some,hw,decide_false,Bool.false_eq_true,if_false,e3,q6,q7,and_self,if_true,Int.toNat_natCast]
     rw[h36,decide_eq_false hsk,Option.bind_some,if_neg (by decide),h37,Option.bind_some,hlast,hpr,Option.bind_some]
     simp only[r1]
     rw[h38,decide_eq_false hbt]
     simp only[Option.bind_some,Bool.false_eq_true,if_false,q5]
def aIG(d:Dt)(n:Nat)(c:Wy)(fr j:Nat)(t:List (Int×Int)):Prop :=
 t.length=n+1∧∀i,i≤j→(t.getD (n - j+i) (0,0)).1=((fE d n c j).getD i (0,0)).1∧(i<j→(t.getD (n - j+i) (0,0)).2=M1 fr ((fE d n c j).getD i (0,0)).2)
theorem aCv{α:Type}{l:List α}{i k:Nat}{x d:α}(hi:i<l.length):(l.set i x).getD k d=if k=i then x else l.getD k d:=by
 simp only[List.getD_eq_getElem?_getD,List.getElem?_set]
 by_cases h:i=k
 ·subst h
  simp[hi]
 ·rw[if_neg h,if_neg (Ne.symm h)]
theorem aIA{α:Type}(l:List α)(i:Nat)(x y:α):(l.set i x).set i y=l.set i y:=by simp
theorem aF4{cl:List cV}(hc:Cel cl){o:List Int}(ho:o.length=cl.length+1){fr n:Nat}(hn:fr+n≤cl.length)(c:Wy)(t0:1≤c.2.1)(t1:c.2.1≤64)(h3:o.getD fr 0≠3)(n0:0<n):
  ∃t,iter (gQ cl o (fr:Int) ((fr+n:Nat):Int) c.1 c.2.1 c.2.2.1 c.2.2.2.1 c.2.2.2.2.1 c.2.2.2.2.2) (List.replicate (n+1) (0,0),((fr+n - 1:Nat):Int))=some t∧aIG (aV cl o fr) n c fr n t:=by
 have hl:=hc.1
 refine dQ (fun z:List (Int×Int)×Int=>∃j:Nat,j≤n∧z.2=(fr:Int)+(n:Int) - 1 - (j:Int)∧aIG (aV cl o fr) n c fr j z.1) (fun z=>(z.2+1 - (fr:Int)).toNat) _ ?_
  ⟨0,by omega,by simp only;omega,by simp,fun i hi=>⟨?_,fun h=>by omega⟩⟩
 ·rintro⟨t,v⟩ ⟨j,hj,hv,ht1,ht2⟩
  simp only at hv
  by_cases hlt:j<n
  ·left
   obtain⟨a,ha⟩:∃a,n=a+j+1:=⟨n - j - 1,by omega⟩
   obtain rfl:v=((fr+a:Nat):Int):=by omega
   simp only at ht1 ht2
   have q1:((fr+a:Nat):Int)≥(fr:Int):=by omega
   have q2:IntKind.i64.wrap (((fr+a:Nat):Int) - (fr:Int))=(a:Int):=by rw[wrap_i64 (by omega) (by omega)];omega
   have q3:0≤(a:Int)∧(a:Int)<(t.length:Int):=by omega
   have q4:a<t.length:=by omega
   have q5:IntKind.i64.wrap (((fr+a:Nat):Int) - 1)=(fr:Int)+(n:Int) - 1 - ((j+1:Nat):Int):=by rw[wrap_i64 (by omega) (by omega)];omega
   have h10:(if(((fr+a:Nat):Int) == (fr:Int))=true then some true else(if 0≤((fr+a:Nat):Int)∧((fr+a:Nat):Int)<(o.length:Int)then some (o.getD (fr+a) 0 != 0)else none))=some (decide (a=0∨opR (aV cl o fr) a≠0)):=by
    by_cases g:a=0
    ·subst g
     simp
    ·have g1:(((fr+a:Nat):Int) == (fr:Int))=false:=by rw[beq_eq_false_iff_ne];omega
     rw[g1,if_neg (by decide),if_pos (by omega),pQ cl o fr (by omega)]
     by_cases g2:opR (aV cl o fr) a=0 <;> simp[g,g2]
   have hent:M3 (aV cl o fr) n c (n - (j+1)) (fE (aV cl o fr) n c j)=M3 (aV cl o fr) n c a (fE (aV cl o fr) n c j):=by rw[show n - (j+1)=a by omega]
   have fin:∀x:Int×Int,(x.1=(M3 (aV cl o fr) n c a (fE (aV cl o fr) n c j)).1∧x.2=M1 fr (M3 (aV cl o fr) n c a (fE (aV cl o fr) n c j)).2)→aIG (aV cl o fr) n c fr (j+1) (t.set a x):=fun x hx=>by
    refine⟨by rw[List.length_set];exact ht1,fun i hi=> ?_⟩
    rw[show n - (j+1)+i=a+i by omega,aCv q4]
    cases i with
    | zero =>
     rw[if_pos (by omega)]
     simp only[fE,List.getD_cons_zero,hent]
     exact⟨hx.1,fun _=>hx.2⟩
    | succ i =>
     rw[if_neg (by omega)]
     obtain⟨y1,y2⟩:=ht2 i (by omega)
     rw[show n - j+i=a+(i+1) by omega]at y1 y2
     simp only[fE,List.getD_cons_succ]
     exact⟨y1,fun h=>y2 (by omega)⟩
   by_cases hb:a=0∨opR (aV cl o fr) a≠0
   ·have hp:(o.getD (fr+a) 0 == 3)=(opR (aV cl o fr) a == 3):=by
     by_cases g:a=0
     ·subst g
      rw[Nat.add_zero,beq_eq_false_iff_ne.2 h3]
      rfl
     ·rw[pQ cl o fr (by omega)]
    have hnx:=aDA hc ho hn c t0 t1 hp (all:=t.set a (0,-1)) (F:=fun k=>(fE (aV cl o fr) n c j).getD (k - a - 1) (0,0)) (by rw[List.length_set];exact ht1) (fun k k1 k2=>by
     rw[aCv q4,if_neg (by omega)]
     obtain⟨y1,y2⟩:=ht2 (k - a - 1) (by omega)
     rw[show n - j+(k - a - 1)=k by omega]at y1 y2
     exact⟨y1,fun h=>y2 (by omega)⟩) (n - a) a 0 (-1) 0 0 0 (by omega) (Nat.le_refl _)
    rw[Nat.sub_self]at hnx
    simp only[jH]at hnx
    have hcv:M1 fr (-1) = -1:=rfl
    rw[hcv]at hnx
    have he:M3 (aV cl o fr) n c a (fE (aV cl o fr) n c j)=iY (aV cl o fr) n c (fun k=>(fE (aV cl o fr) n c j).getD (k - a - 1) (0,0)) a (n - a) a 0 (-1) 0 0 0:=by
     unfold M3
     rw[if_pos hb]
    rw[←he]at hnx
    generalize M3 (aV cl o fr) n c a (fE (aV cl o fr) n c j)=r at hnx fin
    have hbn:p8 cl o ((fr+a:Nat):Int) (fr:Int) ((fr+n:Nat):Int) (t.set a (0,-1)) c.1 c.2.1 c.2.2.1 c.2.2.2.1 c.2.2.2.2.1 c.2.2.2.2.2=some (r.1,M1 fr r.2):=by
     unfold p8
     rw[show IntKind.i64.wrap (((fr+a:Nat):Int)+1)=((fr+a+1:Nat):Int)from bM (by omega),hnx]
     rfl
    refine⟨(t.set a (r.1,M1 fr r.2),(fr:Int)+(n:Int) - 1 - ((j+1:Nat):Int)),?_,⟨j+1,by omega,rfl,fin _ ⟨rfl,rfl⟩⟩,by simp only;omega⟩
    simp only[gQ,q1,q2,q3,q4,and_self,decide_true,if_true,Int.toNat_natCast]
    rw[h10,decide_eq_true hb]
    simp only[Option.bind_some,if_true,hbn,List.length_set,q3,q4,and_self,aIA,q5]
   ·have he:M3 (aV cl o fr) n c a (fE (aV cl o fr) n c j)=(0,-1):=by
     unfold M3
     rw[if_neg hb]
    refine⟨(t.set a (0,-1),(fr:Int)+(n:Int) - 1 - ((j+1:Nat):Int)),?_,⟨j+1,by omega,rfl,fin _ (by rw[he];exact⟨rfl,rfl⟩)⟩,by simp only;omega⟩
    simp only[gQ,q1,q2,q3,q4,and_self,decide_true,if_true,Int.toNat_natCast]
    rw[h10,decide_eq_false hb]
    simp only[Option.bind_some,Bool.false_eq_true,if_false,q5]
  ·right
   obtain rfl:j=n:=by omega
   refine⟨t,?_,ht1,ht2⟩
   have q1:¬(v≥(fr:Int)):=by omega
   simp only[gQ,q1,decide_false,Bool.false_eq_true,if_false]
 ·obtain rfl:i=0:=by omega
  simp[fE]
theorem aAX{cl:List cV}(hc:Cel cl){o:List Int}(ho:o.length=cl.length+1){fr n:Nat}(hn:fr+n≤cl.length)(c:Wy)(t0:1≤c.2.1)(t1:c.2.1≤64){t:List (Int×Int)}(ht:aIG (aV cl o fr) n c fr n t):
  ∀m a out,a≤n→n≤a+m→out.length≤a→(a<n→0≤((fE (aV cl o fr) n c n).getD a (0,0)).2)→iter (gU cl o (fr:Int) ((fr+n:Nat):Int) c.2.1 t) (out,((fr+a:Nat):Int))=some (out++eE (nU (aV cl o fr) n c.2.1 (fE (aV cl o fr) n c n) m a) (fr:Int))
 | 0,a,out,h1,h2,h3,h4=>by
  obtain rfl:a=n:=by omega
  have q1:¬(((fr+a:Nat):Int)<((fr+a:Nat):Int)):=by omega
  exact dO (by simp only[gU,q1,decide_false,Bool.false_eq_true,if_false,nU,eE,List.map_nil,List.append_nil])
 | m+1,a,out,h1,h2,h3,h4=>by
  have hl:=hc.1
  obtain⟨ht1,ht2⟩:=ht
  by_cases ha:a<n
  ·obtain⟨i1,i2,i3⟩:=X4 (aV cl o fr) n c a ha (h4 ha)
   have hT:=(ht2 a (by omega)).2 ha
   rw[Nat.sub_self,Nat.zero_add]at hT
   simp only[nU]
   rw[if_pos ha,show ∀(x:cV) l,eE (x::l) (fr:Int)=eE [x] (fr:Int)++eE l (fr:Int)from fun _ _=>rfl,aFA,←List.append_assoc]
   generalize ((fE (aV cl o fr) n c n).getD a (0,0)).2=b at i1 i2 i3 hT
   obtain⟨b',rfl⟩:∃b':Nat,b=(b':Int):=⟨b.toNat,by omega⟩
   rw[Int.toNat_natCast]at i3 ⊢
   rw[←aAX hc ho hn c t0 t1 ⟨ht1,ht2⟩ m b' _ (by omega) (by omega) (by simp;omega) (fun h=>i3 (by omega))]
   refine gV ?_
   rw[aFI]at hT
   have q1:((fr+a:Nat):Int)<((fr+n:Nat):Int):=by omega
   have q2:IntKind.i64.wrap (((fr+a:Nat):Int) - (fr:Int))=(a:Int):=by rw[wrap_i64 (by omega) (by omega)];omega
   have q3:0≤(a:Int)∧(a:Int)<(t.length:Int):=by omega
   have q4:a<t.length:=by omega
   have q5:0≤((fr+b':Nat):Int)∧((fr+b':Nat):Int)<(o.length:Int):=by omega
   simp only[gU,q1,q2,q3,q4,hT,q5,and_self,decide_true,if_true,Int.toNat_natCast]
   rw[C4 hc o t0 t1 (by omega) (by omega),qL cl o fr c.2.1 (by omega),pQ cl o fr (by omega)]
   simp only[Option.bind_some,List.length_singleton]
   rw[if_pos (by omega)]
  ·obtain rfl:a=n:=by omega
   have q1:¬(((fr+a:Nat):Int)<((fr+a:Nat):Int)):=by omega
   simp only[nU]
   rw[if_neg ha]
   exact dO (by simp only[gU,q1,decide_false,Bool.false_eq_true,if_false,eE,List.map_nil,List.append_nil])
theorem aB6{cl:List cV}(hc:Cel cl){o:List Int}(ho:o.length=cl.length+1){fr n:Nat}(hn:fr+n≤cl.length)(c:Wy)(t0:1≤c.2.1)(t1:c.2.1≤64)(h3:o.getD fr 0≠3):
  oF cl o (fr:Int) ((fr+n:Nat):Int) c.1 c.2.1 c.2.2.1 c.2.2.2.1 c.2.2.2.2.1 c.2.2.2.2.2=some (match A2 (aV cl o fr) n c with | some l=>(eE l (fr:Int),true) | none=>([],false)):=by
 have hl:=hc.1
 unfold oF A2
 by_cases h0:n=0
 ·subst h0
  rw[if_pos (by rw[decide_eq_true_eq];omega),if_pos rfl]
  rfl
 ·have q1:IntKind.i64.wrap (IntKind.i64.wrap (((fr+n:Nat):Int) - (fr:Int))+1)=((n+1:Nat):Int):=by rw[wrap_i64 (x:=((fr+n:Nat):Int) - (fr:Int)) (by omega) (by omega),wrap_i64 (by omega) (by omega)];omega
  have q2:IntKind.i64.wrap (((fr+n:Nat):Int) - 1)=((fr+n - 1:Nat):Int):=by rw[wrap_i64 (by omega) (by omega)];omega
  obtain⟨t,e1,ht⟩:=aF4 hc ho hn c t0 t1 h3 (by omega)
  have ht0:=(ht.2 0 (by omega)).2 (by omega)
  rw[Nat.sub_self]at ht0
  rw[if_neg (by rw[decide_eq_true_eq];omega),if_neg h0,q1,q2,if_pos (by omega),Int.toNat_natCast,e1,Option.bind_some]
  have hl2:=ht.1
  rw[if_pos (by omega),if_pos (by show 0<t.length;omega)]
  rw[show(0:Int).toNat=0 from rfl,ht0]
  by_cases hneg:((fE (aV cl o fr) n c n).getD 0 (0,0)).2<0
  ·rw[if_pos (by rw[decide_eq_true_eq];exact(wD _ _).2 hneg),if_pos hneg]
  ·rw[if_neg (by rw[decide_eq_true_eq];exact fun h=>hneg ((wD _ _).1 h)),if_neg hneg]
   have:=aAX hc ho hn c t0 t1 ht n 0 [] (by omega) (by omega) (by simp) (fun _=>by omega)
   rw[Nat.add_zero,List.nil_append]at this
   rw[this]
   rfl
theorem aIQ{cl:List cV}(hc:Cel cl){o:List Int}(ho:o.length=cl.length+1){fr n:Nat}(hn:fr+n≤cl.length)(c:Wy)(t0:1≤c.2.1)(t1:c.2.1≤64)(h3:o.getD fr 0≠3):
  iD cl o (fr:Int) ((fr+n:Nat):Int) c.1 c.2.1 c.2.2.1 c.2.2.2.1 c.2.2.2.2.1 c.2.2.2.2.2=some (eE (hU (aV cl o fr) n c).1 (fr:Int),(hU (aV cl o fr) n c).2):=by
 unfold iD hU
 rw[aAu hc ho hn c.1 t0 t1,aB6 hc ho hn c t0 t1 h3]
 by_cases hm:c.2.2.1=1
 ·have hm':(c.2.2.1 == 1)=true:=by simpa using hm
  rw[if_pos hm',if_pos hm]
  cases A2 (aV cl o fr) n c <;> simp[hm']
 ·have hm':(c.2.2.1 == 1)=false:=by simpa using hm
  rw[if_neg (by rw[hm'];decide),if_neg hm]
  simp[hm']
end
end Go.Proofs.YtbedjpdfkmfplaaGreatDoor.T
