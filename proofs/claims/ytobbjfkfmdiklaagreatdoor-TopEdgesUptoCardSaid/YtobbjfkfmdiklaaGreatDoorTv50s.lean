import Derived.Test.YtobbjfkfmdiklaaGreatDoorTvFbm
namespace Go.Proofs.YtobbjfkfmdiklaaGreatDoor.T
open Go Go.Tv Go.Proofs
open Go.IntKind (i64)
noncomputable section
theorem FX{o:QK}{fr:Nat}(hf:fr<o.length)(cl:XZ){x:Int}(p:(o.getD fr 0 == 3)=(x == 3))(c:Wy)(e n g:Int)(last:Bool):cR cl o (fr:Int) e n g last c.1 c.2.1 c.2.2.1 c.2.2.2.1 c.2.2.2.2.1 c.2.2.2.2.2=some (dq c x e n g last):=by
 obtain⟨v,b,hp⟩:=HD (o:=[x]) (fr:=0) (by simp) [] e n g last c.1 c.2.1 c.2.2.1 c.2.2.2.1 c.2.2.2.2.1 c.2.2.2.2.2;have j:cR [] [x] 0 e n g last c.1 c.2.1 c.2.2.1 c.2.2.2.1 c.2.2.2.2.1 c.2.2.2.2.2=some (v,b):=hp;unfold dq;rw[j,Option.getD_some,←j];have q:(0≤(fr:Int)∧(fr:Int)<(o.length:Int))=True:=eq_true (by omega);have g2:(0≤(0:Int)∧(0:Int)<(([x]:QK).length:Int))=True:=eq_true (by simp);have g3:([x]:QK).getD (0:Int).toNat 0=x:=rfl;unfold cR;simp only[q,g2,g3,if_true,Int.toNat_natCast,p]
theorem pJ(fr:Nat)(b:Int):uM fr b<0↔b<0:=by unfold uM;split <;> omega
theorem E7(fr k:Nat):uM fr ((k:Nat):Int)=((fr+k:Nat):Int):=by unfold uM;rw[if_neg (by omega)];omega
theorem BL{cl:XZ}(hc:CG cl){o:QK}(ho:o.length=cl.length+1){fr n:Nat}(hn:fr+n≤cl.length)(c:Wy)(t0:1≤c.2.1)(t1:c.2.1≤64){a:Nat}(hp:(o.getD (fr+a) 0 == 3)=(lU (aQ cl o fr) a == 3)){all:Qq}(a1:all.length=n+1){F:Nat→Int×Int}
  (hF:∀k,a<k→k≤n→(all.getD k (0,0)).1=(F k).1∧(k<n→(all.getD k (0,0)).2=uM fr (F k).2)):∀m k j q full sp A,k+m=n→a≤k →
  iter (eQ cl o ((fr+a:Nat):Int) (fr:Int) ((fr+n:Nat):Int) all c.1 c.2.1 c.2.2.1 c.2.2.2.1 c.2.2.2.2.1 c.2.2.2.2.2) (j,uM fr q,dE (aQ cl o fr) c.2.1 a (k - a),full,sp,A,((fr+k+1:Nat):Int)) =
   some ((dI (aQ cl o fr) n c F a m k j q full sp A).1,uM fr (dI (aQ cl o fr) n c F a m k j q full sp A).2)
 | 0,k,j,q,full,sp,A,hk,ha=>by
  have I:¬(((fr+k+1:Nat):Int)≤((fr+n:Nat):Int)):=by omega
  exact dH (by simp only[eQ,I,decide_false,Bool.false_eq_true,if_false,dI])
 | m+1,k,j,q,full,sp,A,hk,ha=>by
  have hl:=hc.1;have L:=n6 cl o fr c.2.1 a;obtain⟨b0,b1⟩:=nQ hc t0 t1 (fr+a) (k - a) (by omega);obtain⟨M,-,-⟩:=qP (c:=cl.getD (fr+k) c0) b0 (by omega) t0 t1 (hc.2 _).1 (hc.2 _).2;have a2:uf (cl.getD (fr+k) c0) (pR cl c.2.1 (fr+a) (k - a)) c.2.1=dE (aQ cl o fr) c.2.1 a (k+1 - a):=by rw[←L,show k+1 - a=(k - a)+1 by omega];simp only[pR];rw[show fr+a+(k - a)=fr+k by omega]
  rw[a2,L]at M;obtain⟨Z,-,-⟩:=rU (cl:=cl) o (show fr+k≤fr+k+1 by omega) (by omega) (by omega);have e3:=Eh cl (o:=o) (i:=fr+k+1) (by omega);rw[E4 cl o fr k]at e3;have I:((fr+k+1:Nat):Int)≤((fr+n:Nat):Int):=by omega
  have q2:i64.wrap (((fr+k+1:Nat):Int) - 1)=((fr+k:Nat):Int):=lL (by omega);have q3:0≤((fr+k:Nat):Int):=by omega
  have q4:((fr+k:Nat):Int)<(cl.length:Int):=by omega
  have q5:i64.wrap (((fr+k+1:Nat):Int)+1)=((fr+(k+1)+1:Nat):Int):=bM (by omega);have q6:i64.wrap (((fr+k+1:Nat):Int) - (fr:Int))=((k+1:Nat):Int):=by rw[wrap_i64 (by omega) (by omega)];omega
  have q7:0≤((k+1:Nat):Int)∧((k+1:Nat):Int)<(all.length:Int):=by omega
  have ht:(((dV cl (fr+k) (fr+k+1):Nat):Int) == ((fr+k+1:Nat):Int)) = !(iy (aQ cl o fr k)):=by
   have hh:qz (cl.getD (fr+k) c0)=iy (aQ cl o fr k):=rfl;have:=(rU (cl:=cl) o (show fr+k≤fr+k by omega) (by omega) (by omega)).2.2;simp only[dV];rw[hh];cases he:iy (aQ cl o fr k)with
   | true =>
    rw[if_pos ⟨by omega,rfl⟩,Bool.not_true,beq_eq_false_iff_ne];omega
   | false =>rw[if_neg (fun x=>by cases x.2)];simp
  have N:(if((cl.getD (fr+k) c0).2.2.2 == 1)=true then some (i64.wrap (sp+1))else some sp)=some (if(aQ cl o fr k).2.1=1 then i64.wrap (sp+1)else sp):=by
   show(if((aQ cl o fr k).2.1 == 1)=true then some (i64.wrap (sp+1))else some sp)=_;by_cases h:(aQ cl o fr k).2.1=1
   ·rw[if_pos h,if_pos (by simpa using h)]
   ·rw[if_neg h,if_neg (by simpa using h)]
  have O:dI (aQ cl o fr) n c F a (m+1) k j q full sp A=(
    let s:=if(aQ cl o fr k).2.1=1 then i64.wrap (sp+1)else sp
    let f:=if iy (aQ cl o fr k)=true then(full,A)else(dE (aQ cl o fr) c.2.1 a (k+1 - a),s)
    if f.1 > c.1 then(j,q)
    else if(aQ cl o fr k).2.2=0∨(k+1<n∧(F (k+1)).2<0)then dI (aQ cl o fr) n c F a m (k+1) j q f.1 s f.2
    else
     let p:=dq c (lU (aQ cl o fr) a) (aQ cl o fr k).2.2 (if(aQ cl o fr k).2.2=3 then i64.wrap (f.1+1)else f.1) f.2 (k+1 == n)
     if p.2=true∧(q<0∨i64.wrap (p.1+(F (k+1)).1)<j)then dI (aQ cl o fr) n c F a m (k+1) (i64.wrap (p.1+(F (k+1)).1)) ((k+1:Nat):Int) f.1 s f.2
     else dI (aQ cl o fr) n c F a m (k+1) j q f.1 s f.2):=rfl
  rw[O];clear O;simp only;generalize (if(aQ cl o fr k).2.1=1 then i64.wrap (sp+1)else sp)=s at N;have u:(if(((dV cl (fr+k) (fr+k+1):Nat):Int) == ((fr+k+1:Nat):Int))=true then some (dE (aQ cl o fr) c.2.1 a (k+1 - a),s)else some (full,A))=some (if iy (aQ cl o fr k)=true then(full,A)else(dE (aQ cl o fr) c.2.1 a (k+1 - a),s)):=by rw[ht];cases iy (aQ cl o fr k) <;> rfl
  generalize (if iy (aQ cl o fr k)=true then(full,A)else(dE (aQ cl o fr) c.2.1 a (k+1 - a),s))=f at u;obtain⟨B,f2⟩:=f;obtain⟨r1,r2⟩:=hF (k+1) (by omega) (by omega);simp only;have ih:=BL hc ho hn c t0 t1 hp a1 hF m (k+1);by_cases J:B > c.1
  ·rw[if_pos J];refine dH ?_;simp only[eQ,I,q2,q3,q4,M,Z,and_self,decide_true,if_true,Option.bind_some,Int.toNat_natCast];rw[N,Option.bind_some,u];simp only[Option.bind_some,J,decide_true,if_true]
  ·rw[if_neg J];have D:(if(!((aQ cl o fr k).2.2 != 0))=true then some true else(if decide (((fr+k+1:Nat):Int)<((fr+n:Nat):Int))=true then some (decide ((all.getD (k+1) (0,0)).2<0))else some false))=some (decide ((aQ cl o fr k).2.2=0∨(k+1<n∧(F (k+1)).2<0))):=by
    by_cases V:(aQ cl o fr k).2.2=0
    ·rw[if_pos (by simp[V]),decide_eq_true (.inl V)]
    ·rw[if_neg (by simp[V])];by_cases g2:k+1<n
     ·rw[if_pos (by rw[decide_eq_true_eq];omega),r2 g2];have:(uM fr (F (k+1)).2<0)=((aQ cl o fr k).2.2=0∨k+1<n∧(F (k+1)).2<0):=propext ⟨fun h=> .inr ⟨g2,(pJ _ _).1 h⟩,fun h=>(pJ _ _).2 (h.elim (fun x=>absurd x V) (fun x=>x.2))⟩;simp only[this]
     ·rw[if_neg (by rw[decide_eq_true_eq];omega),decide_eq_false (fun h=>h.elim V (fun x=>g2 x.1))]
   by_cases v:(aQ cl o fr k).2.2=0∨(k+1<n∧(F (k+1)).2<0)
   ·rw[if_pos v,←ih _ _ _ _ _ (by omega) (by omega)];refine fX ?_;simp only[eQ,I,q2,q3,q4,M,Z,and_self,decide_true,if_true,Option.bind_some,Int.toNat_natCast];rw[N,Option.bind_some,u];simp only[Option.bind_some,J,decide_false,Bool.false_eq_true,if_false,e3,q6,q7,and_self,if_true,Int.toNat_natCast];rw[D,decide_eq_true v];simp only[Option.bind_some,if_true,q5]
   ·rw[if_neg v];have X:(if((aQ cl o fr k).2.2 == 3)=true then some (i64.wrap (B+1))else some B)=some (if(aQ cl o fr k).2.2=3 then i64.wrap (B+1)else B):=by
     by_cases g:(aQ cl o fr k).2.2=3
     ·rw[if_pos g,if_pos (by simpa using g)]
     ·rw[if_neg g,if_neg (by simpa using g)]
    have E:=FX (o:=o) (fr:=fr+a) (by omega) cl hp c (aQ cl o fr k).2.2 (if(aQ cl o fr k).2.2=3 then i64.wrap (B+1)else B) f2 (k+1 == n);have z:(((fr+k+1:Nat):Int) == ((fr+n:Nat):Int))=(k+1 == n):=by
     by_cases g:k+1=n
     ·rw[beq_iff_eq.2 g,beq_iff_eq];omega
     ·rw[beq_eq_false_iff_ne.2 g,beq_eq_false_iff_ne];omega
    generalize dq c (lU (aQ cl o fr) a) (aQ cl o fr k).2.2 (if(aQ cl o fr k).2.2=3 then i64.wrap (B+1)else B) f2 (k+1 == n)=p at E;obtain⟨p1,p2⟩:=p;simp only;have Y:(if p2=true then(if decide (uM fr q<0)=true then some true else some (decide (i64.wrap (p1+(F (k+1)).1)<j)))else some false)=some (decide (p2=true∧(q<0∨i64.wrap (p1+(F (k+1)).1)<j))):=by
     cases p2 with
     | false=>simp
     | true =>
      by_cases g:q<0
      ·have:uM fr q<0:=(pJ _ _).2 g;simp[this,g]
      ·have:¬uM fr q<0:=fun h=>g ((pJ _ _).1 h)
       simp[this,g]
    by_cases C:p2=true∧(q<0∨i64.wrap (p1+(F (k+1)).1)<j)
    ·rw[if_pos C,←ih _ _ _ _ _ (by omega) (by omega),E7];refine fX ?_;simp only[eQ,I,q2,q3,q4,M,Z,and_self,decide_true,if_true,Option.bind_some,Int.toNat_natCast];rw[N,Option.bind_some,u];simp only[Option.bind_some,J,decide_false,Bool.false_eq_true,if_false,e3,q6,q7,and_self,if_true,Int.toNat_natCast];rw[D,decide_eq_false v,Option.bind_some,if_neg (by decide),X,Option.bind_some,z,E,Option.bind_some];simp only[r1];rw[Y,decide_eq_true C];simp only[Option.bind_some,if_true,q5];rfl
    ·rw[if_neg C,←ih _ _ _ _ _ (by omega) (by omega)];refine fX ?_;simp only[eQ,I,q2,q3,q4,M,Z,and_self,decide_true,if_true,Option.bind_some,Int.toNat_natCast];rw[N,Option.bind_some,u];simp only[Option.bind_some,J,decide_false,Bool.false_eq_true,if_false,e3,q6,q7,and_self,if_true,Int.toNat_natCast];rw[D,decide_eq_false v,Option.bind_some,if_neg (by decide),X,Option.bind_some,z,E,Option.bind_some];simp only[r1];rw[Y,decide_eq_false C];simp only[Option.bind_some,Bool.false_eq_true,if_false,q5]
def IW(d:Dt)(n:Nat)(c:Wy)(p j:Nat)(t:Qq):Prop :=
 t.length=n+1∧∀i,i≤j→(t.getD (n - j+i) (0,0)).1=((cK d n c j).getD i (0,0)).1∧(i<j→(t.getD (n - j+i) (0,0)).2=uM p ((cK d n c j).getD i (0,0)).2)
theorem AQ{α:Type}{l:List α}{i k:Nat}{x d:α}(hi:i<l.length):(l.set i x).getD k d=if k=i then x else l.getD k d:=by
 simp only[List.getD_eq_getElem?_getD,List.getElem?_set];by_cases h:i=k
 ·subst h;simp[hi]
 ·rw[if_neg h,if_neg (Ne.symm h)]
theorem set_set{α:Type}(l:List α)(i:Nat)(x y:α):(l.set i x).set i y=l.set i y:=by simp
theorem Gl{cl:XZ}(hc:CG cl){o:QK}(ho:o.length=cl.length+1){p n:Nat}(hn:p+n≤cl.length)(c:Wy)(t0:1≤c.2.1)(t1:c.2.1≤64)(h3:o.getD p 0≠3)(n0:0<n):
  ∃t,iter (fY cl o (p:Int) ((p+n:Nat):Int) c.1 c.2.1 c.2.2.1 c.2.2.2.1 c.2.2.2.2.1 c.2.2.2.2.2) (List.replicate (n+1) (0,0),((p+n - 1:Nat):Int))=some t∧IW (aQ cl o p) n c p n t:=by
 have hl:=hc.1;refine dG (fun z:Qq×Int=>∃j:Nat,j≤n∧z.2=(p:Int)+(n:Int) - 1 - (j:Int)∧IW (aQ cl o p) n c p j z.1) (fun z=>(z.2+1 - (p:Int)).toNat) _ ?_
  ⟨0,by omega,by simp only;omega,by simp,fun i hi=>⟨?_,fun h=>by omega⟩⟩
 ·rintro⟨t,v⟩ ⟨j,hj,hv,u,A⟩;simp only at hv;by_cases a1:j<n
  ·left
   obtain⟨a,ha⟩:∃a,n=a+j+1:=⟨n - j - 1,by omega⟩;obtain rfl:v=((p+a:Nat):Int):=by omega
   simp only at u A;have L:((p+a:Nat):Int)≥(p:Int):=by omega
   have X:i64.wrap (((p+a:Nat):Int) - (p:Int))=(a:Int):=by rw[wrap_i64 (by omega) (by omega)];omega
   have M:0≤(a:Int)∧(a:Int)<(t.length:Int):=by omega
   have C:a<t.length:=by omega
   have Y:i64.wrap (((p+a:Nat):Int) - 1)=(p:Int)+(n:Int) - 1 - ((j+1:Nat):Int):=by rw[wrap_i64 (by omega) (by omega)];omega
   have D:(if(((p+a:Nat):Int) == (p:Int))=true then some true else(if 0≤((p+a:Nat):Int)∧((p+a:Nat):Int)<(o.length:Int)then some (o.getD (p+a) 0 != 0)else none))=some (decide (a=0∨lU (aQ cl o p) a≠0)):=by
    by_cases g:a=0
    ·subst g;simp
    ·have g1:(((p+a:Nat):Int) == (p:Int))=false:=by rw[beq_eq_false_iff_ne];omega
     rw[g1,if_neg (by decide),if_pos (by omega),lE cl o p (by omega)];by_cases g2:lU (aQ cl o p) a=0 <;> simp[g,g2]
   have E:sC (aQ cl o p) n c (n - (j+1)) (cK (aQ cl o p) n c j)=sC (aQ cl o p) n c a (cK (aQ cl o p) n c j):=by rw[show n - (j+1)=a by omega]
   have B:∀x:Int×Int,(x.1=(sC (aQ cl o p) n c a (cK (aQ cl o p) n c j)).1∧x.2=uM p (sC (aQ cl o p) n c a (cK (aQ cl o p) n c j)).2)→IW (aQ cl o p) n c p (j+1) (t.set a x):=fun x Z=>by
    refine⟨by rw[List.length_set];exact u,fun i hi=>?_⟩;rw[show n - (j+1)+i=a+i by omega,AQ C];cases i with
    | zero =>
     rw[if_pos (by omega)];simp only[cK,List.getD_cons_zero,E];exact⟨Z.1,fun _=>Z.2⟩
    | succ i =>rw[if_neg (by omega)];obtain⟨I,J⟩:=A i (by omega);rw[show n - j+i=a+(i+1) by omega]at I J;simp only[cK,List.getD_cons_succ];exact⟨I,fun h=>J (by omega)⟩
   by_cases hb:a=0∨lU (aQ cl o p) a≠0
   ·have hp:(o.getD (p+a) 0 == 3)=(lU (aQ cl o p) a == 3):=by
     by_cases g:a=0
     ·subst g;rw[Nat.add_zero,beq_eq_false_iff_ne.2 h3];rfl
     ·rw[lE cl o p (by omega)]
    have q:=BL hc ho hn c t0 t1 hp (all:=t.set a (0,-1)) (F:=fun k=>(cK (aQ cl o p) n c j).getD (k - a - 1) (0,0)) (by rw[List.length_set];exact u) (fun k k1 k2=>by
     rw[AQ C,if_neg (by omega)];obtain⟨I,J⟩:=A (k - a - 1) (by omega);rw[show n - j+(k - a - 1)=k by omega]at I J;exact⟨I,fun h=>J (by omega)⟩) (n - a) a 0 (-1) 0 0 0 (by omega) (Nat.le_refl _)
    rw[Nat.sub_self]at q;simp only[dE]at q;have N:uM p (-1) = -1:=rfl;rw[N]at q;have O:sC (aQ cl o p) n c a (cK (aQ cl o p) n c j)=dI (aQ cl o p) n c (fun k=>(cK (aQ cl o p) n c j).getD (k - a - 1) (0,0)) a (n - a) a 0 (-1) 0 0 0:=by unfold sC;rw[if_pos hb]
    rw[←O]at q;generalize sC (aQ cl o p) n c a (cK (aQ cl o p) n c j)=r at q B;have V:m6 cl o ((p+a:Nat):Int) (p:Int) ((p+n:Nat):Int) (t.set a (0,-1)) c.1 c.2.1 c.2.2.1 c.2.2.2.1 c.2.2.2.2.1 c.2.2.2.2.2=some (r.1,uM p r.2):=by unfold m6;rw[show i64.wrap (((p+a:Nat):Int)+1)=((p+a+1:Nat):Int)from bM (by omega),q];rfl
    refine⟨(t.set a (r.1,uM p r.2),(p:Int)+(n:Int) - 1 - ((j+1:Nat):Int)),?_,⟨j+1,by omega,rfl,B _ ⟨rfl,rfl⟩⟩,by simp only;omega⟩;simp only[fY,L,X,M,C,and_self,decide_true,if_true,Int.toNat_natCast];rw[D,decide_eq_true hb];simp only[Option.bind_some,if_true,V,List.length_set,M,C,and_self,set_set,Y]
   ·have O:sC (aQ cl o p) n c a (cK (aQ cl o p) n c j)=(0,-1):=by unfold sC;rw[if_neg hb]
    refine⟨(t.set a (0,-1),(p:Int)+(n:Int) - 1 - ((j+1:Nat):Int)),?_,⟨j+1,by omega,rfl,B _ (by rw[O];exact⟨rfl,rfl⟩)⟩,by simp only;omega⟩;simp only[fY,L,X,M,C,and_self,decide_true,if_true,Int.toNat_natCast];rw[D,decide_eq_false hb];simp only[Option.bind_some,Bool.false_eq_true,if_false,Y]
  ·right
   obtain rfl:j=n:=by omega
   refine⟨t,?_,u,A⟩;have L:¬(v≥(p:Int)):=by omega
   simp only[fY,L,decide_false,Bool.false_eq_true,if_false]
 ·obtain rfl:i=0:=by omega
  simp[cK]
theorem yQ{cl:XZ}(hc:CG cl){o:QK}(D:o.length=cl.length+1){j n:Nat}(hn:j+n≤cl.length)(c:Wy)(A:1≤c.2.1)(B:c.2.1≤64){t:Qq}(ht:IW (aQ cl o j) n c j n t):
  ∀m a out,a≤n→n≤a+m→out.length≤a→(a<n→0≤((cK (aQ cl o j) n c n).getD a (0,0)).2)→iter (fZ cl o (j:Int) ((j+n:Nat):Int) c.2.1 t) (out,((j+a:Nat):Int))=some (out++ku (hH (aQ cl o j) n c.2.1 (cK (aQ cl o j) n c n) m a) (j:Int))
 | 0,a,out,h1,h2,E,C=>by
  obtain rfl:a=n:=by omega
  have p:¬(((j+a:Nat):Int)<((j+a:Nat):Int)):=by omega
  exact dH (by simp only[fZ,p,decide_false,Bool.false_eq_true,if_false,hH,ku,List.map_nil,List.append_nil])
 | m+1,a,out,h1,h2,E,C=>by
  have hl:=hc.1;obtain⟨v,q⟩:=ht;by_cases ha:a<n
  ·obtain⟨I,J,z⟩:=wG (aQ cl o j) n c a ha (C ha);have hT:=(q a (by omega)).2 ha;rw[Nat.sub_self,Nat.zero_add]at hT;simp only[hH];rw[if_pos ha,show ∀(x:cO) l,ku (x::l) (j:Int)=ku [x] (j:Int)++ku l (j:Int)from fun _ _=>rfl,Ep,←List.append_assoc];generalize ((cK (aQ cl o j) n c n).getD a (0,0)).2=b at I J z hT;obtain⟨u,rfl⟩:∃u:Nat,b=(u:Int):=⟨b.toNat,by omega⟩;rw[Int.toNat_natCast]at z ⊢;rw[←yQ hc D hn c A B ⟨v,q⟩ m u _ (by omega) (by omega) (by simp;omega) (fun h=>z (by omega))];refine fX ?_;rw[E7]at hT;have p:((j+a:Nat):Int)<((j+n:Nat):Int):=by omega
   have L:i64.wrap (((j+a:Nat):Int) - (j:Int))=(a:Int):=by rw[wrap_i64 (by omega) (by omega)];omega
   have M:0≤(a:Int)∧(a:Int)<(t.length:Int):=by omega
   have N:a<t.length:=by omega
   have O:0≤((j+u:Nat):Int)∧((j+u:Nat):Int)<(o.length:Int):=by omega
   simp only[fZ,p,L,M,N,hT,O,and_self,decide_true,if_true,Int.toNat_natCast];rw[rJ hc o A B (by omega) (by omega),mY cl o j c.2.1 (by omega),lE cl o j (by omega)];simp only[Option.bind_some,List.length_singleton];rw[if_pos (by omega)]
  ·obtain rfl:a=n:=by omega
   have p:¬(((j+a:Nat):Int)<((j+a:Nat):Int)):=by omega
   simp only[hH];rw[if_neg ha];exact dH (by simp only[fZ,p,decide_false,Bool.false_eq_true,if_false,ku,List.map_nil,List.append_nil])
theorem y6{cl:XZ}(hc:CG cl){o:QK}(u:o.length=cl.length+1){p n:Nat}(hn:p+n≤cl.length)(c:Wy)(v:1≤c.2.1)(z:c.2.1≤64)(B:o.getD p 0≠3):
  lF cl o (p:Int) ((p+n:Nat):Int) c.1 c.2.1 c.2.2.1 c.2.2.2.1 c.2.2.2.2.1 c.2.2.2.2.2=some (match iE (aQ cl o p) n c with | some l=>(ku l (p:Int),true) | none=>([],false)):=by
 have hl:=hc.1;unfold lF iE;by_cases A:n=0
 ·subst A;rw[if_pos (by rw[decide_eq_true_eq];omega),if_pos rfl];rfl
 ·have C:i64.wrap (i64.wrap (((p+n:Nat):Int) - (p:Int))+1)=((n+1:Nat):Int):=by rw[wrap_i64 (x:=((p+n:Nat):Int) - (p:Int)) (by omega) (by omega),wrap_i64 (by omega) (by omega)];omega
  have D:i64.wrap (((p+n:Nat):Int) - 1)=((p+n - 1:Nat):Int):=by rw[wrap_i64 (by omega) (by omega)];omega
  obtain⟨t,E,ht⟩:=Gl hc u hn c v z B (by omega);have q:=(ht.2 0 (by omega)).2 (by omega);rw[Nat.sub_self]at q;rw[if_neg (by rw[decide_eq_true_eq];omega),if_neg A,C,D,if_pos (by omega),Int.toNat_natCast,E,Option.bind_some];have I:=ht.1;rw[if_pos (by omega),if_pos (by show 0<t.length;omega)];rw[show(0:Int).toNat=0 from rfl,q];by_cases j:((cK (aQ cl o p) n c n).getD 0 (0,0)).2<0
  ·rw[if_pos (by rw[decide_eq_true_eq];exact(pJ _ _).2 j),if_pos j]
  ·rw[if_neg (by rw[decide_eq_true_eq];exact fun h=>j ((pJ _ _).1 h)),if_neg j];have:=yQ hc u hn c v z ht n 0 [] (by omega) (by omega) (by simp) (fun _=>by omega);rw[Nat.add_zero,List.nil_append]at this;rw[this];rfl
theorem Je{cl:XZ}(hc:CG cl){o:QK}(q:o.length=cl.length+1){p n:Nat}(hn:p+n≤cl.length)(c:Wy)(u:1≤c.2.1)(v:c.2.1≤64)(x:o.getD p 0≠3):
  jB cl o (p:Int) ((p+n:Nat):Int) c.1 c.2.1 c.2.2.1 c.2.2.2.1 c.2.2.2.2.1 c.2.2.2.2.2=some (ku (eH (aQ cl o p) n c).1 (p:Int),(eH (aQ cl o p) n c).2):=by
 unfold jB eH;rw[xv hc q hn c.1 u v,y6 hc q hn c u v x];by_cases hm:c.2.2.1=1
 ·have j:(c.2.2.1 == 1)=true:=by simpa using hm
  rw[if_pos j,if_pos hm];cases iE (aQ cl o p) n c <;> simp[j]
 ·have j:(c.2.2.1 == 1)=false:=by simpa using hm
  rw[if_neg (by rw[j];decide),if_neg hm];simp[j]
end
end Go.Proofs.YtobbjfkfmdiklaaGreatDoor.T
