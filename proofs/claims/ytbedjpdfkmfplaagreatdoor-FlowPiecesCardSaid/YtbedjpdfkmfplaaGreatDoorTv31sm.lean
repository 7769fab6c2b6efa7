import Derived.Test.YtbedjpdfkmfplaaGreatDoorTvFbm
import Derived.Test.YtbedjpdfkmfplaaGreatDoorTvT21da
namespace Go.Proofs.YtbedjpdfkmfplaaGreatDoor.T
open Go Go.Tv Go.Proofs
open Go.IntKind (i64 u8)
noncomputable section
theorem GW{o:QK}{fr:Nat}(z:fr<o.length)(cl:Qk){x:Int}(j:(o.getD fr 0 == 3)=(x == 3))(c:Wy)(e n g:Int)(last:Bool):fZ cl o (fr:Int) e n g last c.1 c.2.1 c.2.2.1 c.2.2.2.1 c.2.2.2.2.1 c.2.2.2.2.2=some (rD c x e n g last):=by
 obtain⟨v,b,q⟩:=HM (o:=[x]) (fr:=0) (by simp) [] e n g last c.1 c.2.1 c.2.2.1 c.2.2.2.1 c.2.2.2.2.1 c.2.2.2.2.2;have f:fZ [] [x] 0 e n g last c.1 c.2.1 c.2.2.1 c.2.2.2.1 c.2.2.2.2.1 c.2.2.2.2.2=some (v,b):=q;unfold rD;rw[f,Option.getD_some,←f];have u:(0≤(fr:Int)∧(fr:Int)<(o.length:Int))=True:=eq_true (by omega);have g2:(0≤(0:Int)∧(0:Int)<(([x]:QK).length:Int))=True:=eq_true (by simp);have g3:([x]:QK).getD (0:Int).toNat 0=x:=rfl;unfold fZ;simp only[u,g2,g3,if_true,Int.toNat_natCast,j]
theorem qn(fr:Nat)(b:Int):vP fr b<0↔b<0:=by unfold vP;split <;> omega
theorem FM(fr k:Nat):vP fr ((k:Nat):Int)=((fr+k:Nat):Int):=by unfold vP;rw[if_neg (by omega)];omega
theorem Ck{cl:Qk}(J:Fb cl){o:QK}(ho:o.length=cl.length+1){fr n:Nat}(hn:fr+n≤cl.length)(c:Wy)(t0:1≤c.2.1)(t1:c.2.1≤64){a:Nat}(hp:(o.getD (fr+a) 0 == 3)=(yZ (aQ cl o fr) a == 3)){all:Qq}(a1:all.length=n+1){F:Nat→Int×Int}
  (hF:∀k,a<k→k≤n→(all.getD k (0,0)).1=(F k).1∧(k<n→(all.getD k (0,0)).2=vP fr (F k).2)):∀m k e j full sp z,k+m=n→a≤k →
  iter (ff cl o ((fr+a:Nat):Int) (fr:Int) ((fr+n:Nat):Int) all c.1 c.2.1 c.2.2.1 c.2.2.2.1 c.2.2.2.2.1 c.2.2.2.2.2) (e,vP fr j,iR (aQ cl o fr) c.2.1 a (k - a),full,sp,z,((fr+k+1:Nat):Int)) =
   some ((ie (aQ cl o fr) n c F a m k e j full sp z).1,vP fr (ie (aQ cl o fr) n c F a m k e j full sp z).2)
 | 0,k,e,j,full,sp,z,hk,ha=>by
  have E:¬(((fr+k+1:Nat):Int)≤((fr+n:Nat):Int)):=by omega
  exact dP (by simp only[ff,E,decide_false,Bool.false_eq_true,if_false,ie])
 | m+1,k,e,j,full,sp,z,hk,ha=>by
  have hl:=J.1;have L:=wc cl o fr c.2.1 a;obtain⟨b0,b1⟩:=sN J t0 t1 (fr+a) (k - a) (by omega);obtain⟨M,-,-⟩:=wj (c:=cl.getD (fr+k) c0) b0 (by omega) t0 t1 (J.2 _).1 (J.2 _).2;have a2:vC (cl.getD (fr+k) c0) (rF cl c.2.1 (fr+a) (k - a)) c.2.1=iR (aQ cl o fr) c.2.1 a (k+1 - a):=by rw[←L,show k+1 - a=(k - a)+1 by omega];simp only[rF];rw[show fr+a+(k - a)=fr+k by omega]
  rw[a2,L]at M;obtain⟨Z,-,-⟩:=sP (cl:=cl) o (show fr+k≤fr+k+1 by omega) (by omega) (by omega);have e3:=FZ cl (o:=o) (i:=fr+k+1) (by omega);rw[Fm cl o fr k]at e3;have E:((fr+k+1:Nat):Int)≤((fr+n:Nat):Int):=by omega
  have q2:i64.wrap (((fr+k+1:Nat):Int) - 1)=((fr+k:Nat):Int):=l9 (by omega);have q3:0≤((fr+k:Nat):Int):=by omega
  have q4:((fr+k:Nat):Int)<(cl.length:Int):=by omega
  have q5:i64.wrap (((fr+k+1:Nat):Int)+1)=((fr+(k+1)+1:Nat):Int):=bF (by omega);have q6:i64.wrap (((fr+k+1:Nat):Int) - (fr:Int))=((k+1:Nat):Int):=by rw[wrap_i64 (by omega) (by omega)];omega
  have q7:0≤((k+1:Nat):Int)∧((k+1:Nat):Int)<(all.length:Int):=by omega
  have ht:(((eA cl (fr+k) (fr+k+1):Nat):Int) == ((fr+k+1:Nat):Int)) = !(kG (aQ cl o fr k)):=by
   have hh:rN (cl.getD (fr+k) c0)=kG (aQ cl o fr k):=rfl;have:=(sP (cl:=cl) o (show fr+k≤fr+k by omega) (by omega) (by omega)).2.2;simp only[eA];rw[hh];cases he:kG (aQ cl o fr k)with
   | true =>
    rw[if_pos ⟨by omega,rfl⟩,Bool.not_true,beq_eq_false_iff_ne];omega
   | false =>rw[if_neg (fun x=>by cases x.2)];simp
  have N:(if((cl.getD (fr+k) c0).2.2.2 == 1)=true then some (i64.wrap (sp+1))else some sp)=some (if(aQ cl o fr k).2.1=1 then i64.wrap (sp+1)else sp):=by
   show(if((aQ cl o fr k).2.1 == 1)=true then some (i64.wrap (sp+1))else some sp)=_;by_cases h:(aQ cl o fr k).2.1=1
   ·rw[if_pos h,if_pos (by simpa using h)]
   ·rw[if_neg h,if_neg (by simpa using h)]
  have O:ie (aQ cl o fr) n c F a (m+1) k e j full sp z=(
    let s:=if(aQ cl o fr k).2.1=1 then i64.wrap (sp+1)else sp
    let f:=if kG (aQ cl o fr k)=true then(full,z)else(iR (aQ cl o fr) c.2.1 a (k+1 - a),s)
    if f.1 > c.1 then(e,j)
    else if(aQ cl o fr k).2.2=0∨(k+1<n∧(F (k+1)).2<0)then ie (aQ cl o fr) n c F a m (k+1) e j f.1 s f.2
    else
     let p:=rD c (yZ (aQ cl o fr) a) (aQ cl o fr k).2.2 (if(aQ cl o fr k).2.2=3 then i64.wrap (f.1+1)else f.1) f.2 (k+1 == n)
     if p.2=true∧(j<0∨i64.wrap (p.1+(F (k+1)).1)<e)then ie (aQ cl o fr) n c F a m (k+1) (i64.wrap (p.1+(F (k+1)).1)) ((k+1:Nat):Int) f.1 s f.2
     else ie (aQ cl o fr) n c F a m (k+1) e j f.1 s f.2):=rfl
  rw[O];clear O;simp only;generalize (if(aQ cl o fr k).2.1=1 then i64.wrap (sp+1)else sp)=s at N;have q:(if(((eA cl (fr+k) (fr+k+1):Nat):Int) == ((fr+k+1:Nat):Int))=true then some (iR (aQ cl o fr) c.2.1 a (k+1 - a),s)else some (full,z))=some (if kG (aQ cl o fr k)=true then(full,z)else(iR (aQ cl o fr) c.2.1 a (k+1 - a),s)):=by rw[ht];cases kG (aQ cl o fr k) <;> rfl
  generalize (if kG (aQ cl o fr k)=true then(full,z)else(iR (aQ cl o fr) c.2.1 a (k+1 - a),s))=f at q;obtain⟨A,f2⟩:=f;obtain⟨r1,r2⟩:=hF (k+1) (by omega) (by omega);simp only;have ih:=Ck J ho hn c t0 t1 hp a1 hF m (k+1);by_cases I:A > c.1
  ·rw[if_pos I];refine dP ?_;simp only[ff,E,q2,q3,q4,M,Z,and_self,decide_true,if_true,Option.bind_some,Int.toNat_natCast];rw[N,Option.bind_some,q];simp only[Option.bind_some,I,decide_true,if_true]
  ·rw[if_neg I];have C:(if(!((aQ cl o fr k).2.2 != 0))=true then some true else(if decide (((fr+k+1:Nat):Int)<((fr+n:Nat):Int))=true then some (decide ((all.getD (k+1) (0,0)).2<0))else some false))=some (decide ((aQ cl o fr k).2.2=0∨(k+1<n∧(F (k+1)).2<0))):=by
    by_cases V:(aQ cl o fr k).2.2=0
    ·rw[if_pos (by simp[V]),decide_eq_true (.inl V)]
    ·rw[if_neg (by simp[V])];by_cases g2:k+1<n
     ·rw[if_pos (by rw[decide_eq_true_eq];omega),r2 g2];have:(vP fr (F (k+1)).2<0)=((aQ cl o fr k).2.2=0∨k+1<n∧(F (k+1)).2<0):=propext ⟨fun h=> .inr ⟨g2,(qn _ _).1 h⟩,fun h=>(qn _ _).2 (h.elim (fun x=>absurd x V) (fun x=>x.2))⟩;simp only[this]
     ·rw[if_neg (by rw[decide_eq_true_eq];omega),decide_eq_false (fun h=>h.elim V (fun x=>g2 x.1))]
   by_cases u:(aQ cl o fr k).2.2=0∨(k+1<n∧(F (k+1)).2<0)
   ·rw[if_pos u,←ih _ _ _ _ _ (by omega) (by omega)];refine gA ?_;simp only[ff,E,q2,q3,q4,M,Z,and_self,decide_true,if_true,Option.bind_some,Int.toNat_natCast];rw[N,Option.bind_some,q];simp only[Option.bind_some,I,decide_false,Bool.false_eq_true,if_false,e3,q6,q7,and_self,if_true,Int.toNat_natCast];rw[C,decide_eq_true u];simp only[Option.bind_some,if_true,q5]
   ·rw[if_neg u];have X:(if((aQ cl o fr k).2.2 == 3)=true then some (i64.wrap (A+1))else some A)=some (if(aQ cl o fr k).2.2=3 then i64.wrap (A+1)else A):=by
     by_cases g:(aQ cl o fr k).2.2=3
     ·rw[if_pos g,if_pos (by simpa using g)]
     ·rw[if_neg g,if_neg (by simpa using g)]
    have D:=GW (o:=o) (fr:=fr+a) (by omega) cl hp c (aQ cl o fr k).2.2 (if(aQ cl o fr k).2.2=3 then i64.wrap (A+1)else A) f2 (k+1 == n);have v:(((fr+k+1:Nat):Int) == ((fr+n:Nat):Int))=(k+1 == n):=by
     by_cases g:k+1=n
     ·rw[beq_iff_eq.2 g,beq_iff_eq];omega
     ·rw[beq_eq_false_iff_ne.2 g,beq_eq_false_iff_ne];omega
    generalize rD c (yZ (aQ cl o fr) a) (aQ cl o fr k).2.2 (if(aQ cl o fr k).2.2=3 then i64.wrap (A+1)else A) f2 (k+1 == n)=p at D;obtain⟨p1,p2⟩:=p;simp only;have Y:(if p2=true then(if decide (vP fr j<0)=true then some true else some (decide (i64.wrap (p1+(F (k+1)).1)<e)))else some false)=some (decide (p2=true∧(j<0∨i64.wrap (p1+(F (k+1)).1)<e))):=by
     cases p2 with
     | false=>simp
     | true =>
      by_cases g:j<0
      ·have:vP fr j<0:=(qn _ _).2 g;simp[this,g]
      ·have:¬vP fr j<0:=fun h=>g ((qn _ _).1 h)
       simp[this,g]
    by_cases B:p2=true∧(j<0∨i64.wrap (p1+(F (k+1)).1)<e)
    ·rw[if_pos B,←ih _ _ _ _ _ (by omega) (by omega),FM];refine gA ?_;simp only[ff,E,q2,q3,q4,M,Z,and_self,decide_true,if_true,Option.bind_some,Int.toNat_natCast];rw[N,Option.bind_some,q];simp only[Option.bind_some,I,decide_false,Bool.false_eq_true,if_false,e3,q6,q7,and_self,if_true,Int.toNat_natCast];rw[C,decide_eq_false u,Option.bind_some,if_neg (by decide),X,Option.bind_some,v,D,Option.bind_some];simp only[r1];rw[Y,decide_eq_true B];simp only[Option.bind_some,if_true,q5];rfl
    ·rw[if_neg B,←ih _ _ _ _ _ (by omega) (by omega)];refine gA ?_;simp only[ff,E,q2,q3,q4,M,Z,and_self,decide_true,if_true,Option.bind_some,Int.toNat_natCast];rw[N,Option.bind_some,q];simp only[Option.bind_some,I,decide_false,Bool.false_eq_true,if_false,e3,q6,q7,and_self,if_true,Int.toNat_natCast];rw[C,decide_eq_false u,Option.bind_some,if_neg (by decide),X,Option.bind_some,v,D,Option.bind_some];simp only[r1];rw[Y,decide_eq_false B];simp only[Option.bind_some,Bool.false_eq_true,if_false,q5]
def KI(d:Dt)(n:Nat)(c:Wy)(e j:Nat)(t:Qq):Prop :=
 t.length=n+1∧∀i,i≤j→(t.getD (n - j+i) (0,0)).1=((eT d n c j).getD i (0,0)).1∧(i<j→(t.getD (n - j+i) (0,0)).2=vP e ((eT d n c j).getD i (0,0)).2)
theorem CB{α:Type}{l:List α}{i k:Nat}{x d:α}(hi:i<l.length):(l.set i x).getD k d=if k=i then x else l.getD k d:=by
 simp only[List.getD_eq_getElem?_getD,List.getElem?_set];by_cases h:i=k
 ·subst h;simp[hi]
 ·rw[if_neg h,if_neg (Ne.symm h)]
theorem set_set{α:Type}(l:List α)(i:Nat)(x y:α):(l.set i x).set i y=l.set i y:=by simp
theorem Gq{cl:Qk}(V:Fb cl){o:QK}(ho:o.length=cl.length+1){e n:Nat}(hn:e+n≤cl.length)(c:Wy)(t0:1≤c.2.1)(t1:c.2.1≤64)(h3:o.getD e 0≠3)(n0:0<n):
  ∃t,iter (gC cl o (e:Int) ((e+n:Nat):Int) c.1 c.2.1 c.2.2.1 c.2.2.2.1 c.2.2.2.2.1 c.2.2.2.2.2) (List.replicate (n+1) (0,0),((e+n - 1:Nat):Int))=some t∧KI (aQ cl o e) n c e n t:=by
 have hl:=V.1;refine dB (fun z:Qq×Int=>∃j:Nat,j≤n∧z.2=(e:Int)+(n:Int) - 1 - (j:Int)∧KI (aQ cl o e) n c e j z.1) (fun z=>(z.2+1 - (e:Int)).toNat) _ ?_
  ⟨0,by omega,by simp only;omega,by simp,fun i hi=>⟨?_,fun h=>by omega⟩⟩
 ·rintro⟨t,v⟩ ⟨j,hj,hv,q,u⟩;simp only at hv;by_cases a1:j<n
  ·left
   obtain⟨a,ha⟩:∃a,n=a+j+1:=⟨n - j - 1,by omega⟩;obtain rfl:v=((e+a:Nat):Int):=by omega
   simp only at q u;have J:((e+a:Nat):Int)≥(e:Int):=by omega
   have X:i64.wrap (((e+a:Nat):Int) - (e:Int))=(a:Int):=by rw[wrap_i64 (by omega) (by omega)];omega
   have L:0≤(a:Int)∧(a:Int)<(t.length:Int):=by omega
   have B:a<t.length:=by omega
   have Y:i64.wrap (((e+a:Nat):Int) - 1)=(e:Int)+(n:Int) - 1 - ((j+1:Nat):Int):=by rw[wrap_i64 (by omega) (by omega)];omega
   have C:(if(((e+a:Nat):Int) == (e:Int))=true then some true else(if 0≤((e+a:Nat):Int)∧((e+a:Nat):Int)<(o.length:Int)then some (o.getD (e+a) 0 != 0)else none))=some (decide (a=0∨yZ (aQ cl o e) a≠0)):=by
    by_cases g:a=0
    ·subst g;simp
    ·have g1:(((e+a:Nat):Int) == (e:Int))=false:=by rw[beq_eq_false_iff_ne];omega
     rw[g1,if_neg (by decide),if_pos (by omega),np cl o e (by omega)];by_cases g2:yZ (aQ cl o e) a=0 <;> simp[g,g2]
   have D:vO (aQ cl o e) n c (n - (j+1)) (eT (aQ cl o e) n c j)=vO (aQ cl o e) n c a (eT (aQ cl o e) n c j):=by rw[show n - (j+1)=a by omega]
   have A:∀x:Int×Int,(x.1=(vO (aQ cl o e) n c a (eT (aQ cl o e) n c j)).1∧x.2=vP e (vO (aQ cl o e) n c a (eT (aQ cl o e) n c j)).2)→KI (aQ cl o e) n c e (j+1) (t.set a x):=fun x Z=>by
    refine⟨by rw[List.length_set];exact q,fun i hi=>?_⟩;rw[show n - (j+1)+i=a+i by omega,CB B];cases i with
    | zero =>
     rw[if_pos (by omega)];simp only[eT,List.getD_cons_zero,D];exact⟨Z.1,fun _=>Z.2⟩
    | succ i =>rw[if_neg (by omega)];obtain⟨E,I⟩:=u i (by omega);rw[show n - j+i=a+(i+1) by omega]at E I;simp only[eT,List.getD_cons_succ];exact⟨E,fun h=>I (by omega)⟩
   by_cases hb:a=0∨yZ (aQ cl o e) a≠0
   ·have hp:(o.getD (e+a) 0 == 3)=(yZ (aQ cl o e) a == 3):=by
     by_cases g:a=0
     ·subst g;rw[Nat.add_zero,beq_eq_false_iff_ne.2 h3];rfl
     ·rw[np cl o e (by omega)]
    have f:=Ck V ho hn c t0 t1 hp (all:=t.set a (0,-1)) (F:=fun k=>(eT (aQ cl o e) n c j).getD (k - a - 1) (0,0)) (by rw[List.length_set];exact q) (fun k k1 k2=>by
     rw[CB B,if_neg (by omega)];obtain⟨E,I⟩:=u (k - a - 1) (by omega);rw[show n - j+(k - a - 1)=k by omega]at E I;exact⟨E,fun h=>I (by omega)⟩) (n - a) a 0 (-1) 0 0 0 (by omega) (Nat.le_refl _)
    rw[Nat.sub_self]at f;simp only[iR]at f;have M:vP e (-1) = -1:=rfl;rw[M]at f;have N:vO (aQ cl o e) n c a (eT (aQ cl o e) n c j)=ie (aQ cl o e) n c (fun k=>(eT (aQ cl o e) n c j).getD (k - a - 1) (0,0)) a (n - a) a 0 (-1) 0 0 0:=by unfold vO;rw[if_pos hb]
    rw[←N]at f;generalize vO (aQ cl o e) n c a (eT (aQ cl o e) n c j)=r at f A;have O:nQ cl o ((e+a:Nat):Int) (e:Int) ((e+n:Nat):Int) (t.set a (0,-1)) c.1 c.2.1 c.2.2.1 c.2.2.2.1 c.2.2.2.2.1 c.2.2.2.2.2=some (r.1,vP e r.2):=by unfold nQ;rw[show i64.wrap (((e+a:Nat):Int)+1)=((e+a+1:Nat):Int)from bF (by omega),f];rfl
    refine⟨(t.set a (r.1,vP e r.2),(e:Int)+(n:Int) - 1 - ((j+1:Nat):Int)),?_,⟨j+1,by omega,rfl,A _ ⟨rfl,rfl⟩⟩,by simp only;omega⟩;simp only[gC,J,X,L,B,and_self,decide_true,if_true,Int.toNat_natCast];rw[C,decide_eq_true hb];simp only[Option.bind_some,if_true,O,List.length_set,L,B,and_self,set_set,Y]
   ·have N:vO (aQ cl o e) n c a (eT (aQ cl o e) n c j)=(0,-1):=by unfold vO;rw[if_neg hb]
    refine⟨(t.set a (0,-1),(e:Int)+(n:Int) - 1 - ((j+1:Nat):Int)),?_,⟨j+1,by omega,rfl,A _ (by rw[N];exact⟨rfl,rfl⟩)⟩,by simp only;omega⟩;simp only[gC,J,X,L,B,and_self,decide_true,if_true,Int.toNat_natCast];rw[C,decide_eq_false hb];simp only[Option.bind_some,Bool.false_eq_true,if_false,Y]
  ·right
   obtain rfl:j=n:=by omega
   refine⟨t,?_,q,u⟩;have J:¬(v≥(e:Int)):=by omega
   simp only[gC,J,decide_false,Bool.false_eq_true,if_false]
 ·obtain rfl:i=0:=by omega
  simp[eT]
theorem zD{cl:Qk}(u:Fb cl){o:QK}(D:o.length=cl.length+1){e n:Nat}(hn:e+n≤cl.length)(c:Wy)(A:1≤c.2.1)(B:c.2.1≤64){t:Qq}(ht:KI (aQ cl o e) n c e n t):
  ∀m a out,a≤n→n≤a+m→out.length≤a→(a<n→0≤((eT (aQ cl o e) n c n).getD a (0,0)).2)→iter (gB cl o (e:Int) ((e+n:Nat):Int) c.2.1 t) (out,((e+a:Nat):Int))=some (out++dU (ma (aQ cl o e) n c.2.1 (eT (aQ cl o e) n c n) m a) (e:Int))
 | 0,a,out,E,I,J,C=>by
  obtain rfl:a=n:=by omega
  have f:¬(((e+a:Nat):Int)<((e+a:Nat):Int)):=by omega
  exact dP (by simp only[gB,f,decide_false,Bool.false_eq_true,if_false,ma,dU,List.map_nil,List.append_nil])
 | m+1,a,out,E,I,J,C=>by
  have hl:=u.1;obtain⟨v,j⟩:=ht;by_cases ha:a<n
  ·obtain⟨L,M,z⟩:=xm (aQ cl o e) n c a ha (C ha);have hT:=(j a (by omega)).2 ha;rw[Nat.sub_self,Nat.zero_add]at hT;simp only[ma];rw[if_pos ha,show ∀(x:cg) l,dU (x::l) (e:Int)=dU [x] (e:Int)++dU l (e:Int)from fun _ _=>rfl,Gh,←List.append_assoc];generalize ((eT (aQ cl o e) n c n).getD a (0,0)).2=b at L M z hT;obtain⟨q,rfl⟩:∃q:Nat,b=(q:Int):=⟨b.toNat,by omega⟩;rw[Int.toNat_natCast]at z ⊢;rw[←zD u D hn c A B ⟨v,j⟩ m q _ (by omega) (by omega) (by simp;omega) (fun h=>z (by omega))];refine gA ?_;rw[FM]at hT;have f:((e+a:Nat):Int)<((e+n:Nat):Int):=by omega
   have N:i64.wrap (((e+a:Nat):Int) - (e:Int))=(a:Int):=by rw[wrap_i64 (by omega) (by omega)];omega
   have O:0≤(a:Int)∧(a:Int)<(t.length:Int):=by omega
   have V:a<t.length:=by omega
   have X:0≤((e+q:Nat):Int)∧((e+q:Nat):Int)<(o.length:Int):=by omega
   simp only[gB,f,N,O,V,hT,X,and_self,decide_true,if_true,Int.toNat_natCast];rw[tn u o A B (by omega) (by omega),nh cl o e c.2.1 (by omega),np cl o e (by omega)];simp only[Option.bind_some,List.length_singleton];rw[if_pos (by omega)]
  ·obtain rfl:a=n:=by omega
   have f:¬(((e+a:Nat):Int)<((e+a:Nat):Int)):=by omega
   simp only[ma];rw[if_neg ha];exact dP (by simp only[gB,f,decide_false,Bool.false_eq_true,if_false,dU,List.map_nil,List.append_nil])
theorem AJ{cl:Qk}(q:Fb cl){o:QK}(u:o.length=cl.length+1){f n:Nat}(hn:f+n≤cl.length)(c:Wy)(v:1≤c.2.1)(z:c.2.1≤64)(B:o.getD f 0≠3):
  l4 cl o (f:Int) ((f+n:Nat):Int) c.1 c.2.1 c.2.2.1 c.2.2.2.1 c.2.2.2.2.1 c.2.2.2.2.2=some (match tw (aQ cl o f) n c with | some l=>(dU l (f:Int),true) | none=>([],false)):=by
 have hl:=q.1;unfold l4 tw;by_cases A:n=0
 ·subst A;rw[if_pos (by rw[decide_eq_true_eq];omega),if_pos rfl];rfl
 ·have C:i64.wrap (i64.wrap (((f+n:Nat):Int) - (f:Int))+1)=((n+1:Nat):Int):=by rw[wrap_i64 (x:=((f+n:Nat):Int) - (f:Int)) (by omega) (by omega),wrap_i64 (by omega) (by omega)];omega
  have D:i64.wrap (((f+n:Nat):Int) - 1)=((f+n - 1:Nat):Int):=by rw[wrap_i64 (by omega) (by omega)];omega
  obtain⟨t,E,ht⟩:=Gq q u hn c v z B (by omega);have j:=(ht.2 0 (by omega)).2 (by omega);rw[Nat.sub_self]at j;rw[if_neg (by rw[decide_eq_true_eq];omega),if_neg A,C,D,if_pos (by omega),Int.toNat_natCast,E,Option.bind_some];have I:=ht.1;rw[if_pos (by omega),if_pos (by show 0<t.length;omega)];rw[show(0:Int).toNat=0 from rfl,j];by_cases e:((eT (aQ cl o f) n c n).getD 0 (0,0)).2<0
  ·rw[if_pos (by rw[decide_eq_true_eq];exact(qn _ _).2 e),if_pos e]
  ·rw[if_neg (by rw[decide_eq_true_eq];exact fun h=>e ((qn _ _).1 h)),if_neg e];have:=zD q u hn c v z ht n 0 [] (by omega) (by omega) (by simp) (fun _=>by omega);rw[Nat.add_zero,List.nil_append]at this;rw[this];rfl
theorem KJ{cl:Qk}(q:Fb cl){o:QK}(u:o.length=cl.length+1){f n:Nat}(hn:f+n≤cl.length)(c:Wy)(v:1≤c.2.1)(z:c.2.1≤64)(A:o.getD f 0≠3):
  iT cl o (f:Int) ((f+n:Nat):Int) c.1 c.2.1 c.2.2.1 c.2.2.2.1 c.2.2.2.2.1 c.2.2.2.2.2=some (dU (iZ (aQ cl o f) n c).1 (f:Int),(iZ (aQ cl o f) n c).2):=by
 unfold iT iZ;rw[zj q u hn c.1 v z,AJ q u hn c v z A];by_cases j:c.2.2.1=1
 ·have e:(c.2.2.1 == 1)=true:=by simpa using j
  rw[if_pos e,if_pos j];cases tw (aQ cl o f) n c <;> simp[e]
 ·have e:(c.2.2.1 == 1)=false:=by simpa using j
  rw[if_neg (by rw[e];decide),if_neg j];simp[e]
theorem yq{α:Type}(p:List α)(x:α)(l:List α)(d:α):(p++x::l).getD p.length d=x:=by simp[List.getD_eq_getElem?_getD]
theorem zz(d:Dt)(n:Nat)(f e:Int):∀m a,(gR d n f e m a).length≤m
 | 0,_=>by simp[gR]
 | m+1,a=>by
  have:=zz d n f e m (lI d n f e a).1;simp only[gR];split
  ·simp only[List.length_cons];omega
  ·simp
theorem Cm(d:Dt)(n:Nat)(e:Int)(T:Qq):∀m a,(ma d n e T m a).length≤m
 | 0,_=>by simp[ma]
 | m+1,a=>by
  have:=Cm d n e T m (T.getD a (0,0)).2.toNat;simp only[ma];split
  ·simp only[List.length_cons];omega
  ·simp
theorem yc(d:Dt)(n:Nat)(c:Wy):(iZ d n c).1.length≤n:=by
 have e:=zz d n c.1 c.2.1 n 0;have u:=Cm d n c.2.1 (eT d n c n) n 0;unfold iZ tw;by_cases f:c.2.2.1=1
 ·rw[if_pos f];by_cases j:n=0
  ·rw[if_pos j];simp
  ·rw[if_neg j];by_cases q:((eT d n c n).getD 0 (0,0)).2<0
   ·rw[if_pos q];exact e
   ·rw[if_neg q];exact u
 ·rw[if_neg f];exact e
theorem nu(l:Qk)(b:Int):(dU l b).length=l.length:=by simp[dU]
def Rg(n:Nat)(x:cg):Prop:=∃a b:Nat,x.1=(a:Int)∧x.2.1=(b:Int)∧a<b∧b≤n
theorem zW(d:Dt)(n:Nat)(j f:Int):∀m a,∀x∈gR d n j f m a,Rg n x
 | 0,_,x,e=>by simp[gR]at e
 | m+1,a,x,e=>by
  simp only[gR]at e;split at e
  ·rename_i ha;have h:=yr d j f ha;rcases List.mem_cons.1 e with rfl | e
   ·exact⟨a,_,rfl,rfl,h.1,h.2⟩
   ·exact zW d n j f m _ x e
  ·cases e
theorem CT(d:Dt){n:Nat}(f:Int){T:Qq}(hT:∀a,a<n→0≤(T.getD a (0,0)).2→(a:Int)<(T.getD a (0,0)).2∧(T.getD a (0,0)).2≤(n:Int)∧((T.getD a (0,0)).2<(n:Int)→0≤(T.getD (T.getD a (0,0)).2.toNat (0,0)).2)):∀m a,(a<n→0≤(T.getD a (0,0)).2)→∀x∈ma d n f T m a,Rg n x
 | 0,_,_,x,e=>by simp[ma]at e
 | m+1,a,j,x,e=>by
  simp only[ma]at e;split at e
  ·rename_i ha;obtain⟨u,v,q⟩:=hT a ha (j ha);rcases List.mem_cons.1 e with rfl | e
   ·exact⟨a,_,rfl,rfl,by omega,by omega⟩
   ·exact CT d f hT m _ (fun _=>q (by omega)) x e
  ·cases e
theorem wH(d:Dt)(n:Nat)(c:Wy):∀x∈(iZ d n c).1,Rg n x:=by
 have e:=zW d n c.1 c.2.1 n 0;unfold iZ tw;by_cases f:c.2.2.1=1
 ·rw[if_pos f];by_cases j:n=0
  ·rw[if_pos j];intro x u;cases u
  ·rw[if_neg j];by_cases q:((eT d n c n).getD 0 (0,0)).2<0
   ·rw[if_pos q];exact e
   ·rw[if_neg q];exact CT d c.2.1 (xm d n c) n 0 (fun _=>by omega)
 ·rw[if_neg f];exact e
theorem Ij(l:Qk)(a b:Int):dU (dU l a) b=dU l (a+b):=by
 unfold dU;rw[List.map_map];refine List.map_congr_left fun x _=>?_
 simp only[Function.comp];rw[Int.add_assoc,Int.add_assoc]
theorem Hc(l:Qk):dU l 0=l:=by
 unfold dU
 conv=>rhs;rw[←List.map_id l]
 refine List.map_congr_left fun x _=>?_
 simp only[Int.add_zero,id]
def Nr(l:Qk):Prop:=l.length≤4096∧∀x∈l,-10000≤x.1∧x.1≤10000 ∧ -10000≤x.2.1∧x.2.1≤10000
theorem BO{l:Qk}(h:l.length≤4096):pX l=some l:=by
 unfold pX;cases l with
 | nil=>rfl
 | cons x r =>
  rw[if_neg (by simp),if_pos (by simp only[List.length_nil];omega)];rfl
theorem BX{l:Qk}(h:Nr l){b:Int}(L : -10000≤b)(M:b≤10000):iQ l b=some (dU l b):=by
 have C:iter (gD b l) ((dU (l.take 0) b++l.drop 0),((0:Nat):Int))=some (dU l b):=by
  refine gL (fun k=>(dU (l.take k) b++l.drop k,(k:Int))) l.length (fun k hk=>?_) ?_
  ·have N:=h.2 (l.getD k c0) (qt hk);have u:(dU (l.take k) b++l.drop k).length=l.length:=by rw[List.length_append,nu,List.length_take,List.length_drop];omega
   have e:(dU (l.take k) b).length=k:=by rw[nu,List.length_take];omega
   have v:(dU (l.take k) b++l.drop k).getD k c0=l.getD k c0:=by have:=yq (dU (l.take k) b) (l.getD k c0) (l.drop (k+1)) c0;rw[e]at this;rw[xE (d:=c0) hk];exact this
   have A:∀y:cg,(dU (l.take k) b++l.drop k).set k y=dU (l.take k) b++y::l.drop (k+1):=fun y=>by rw[xE (d:=c0) hk,List.set_append_right _ _ (by omega),e,Nat.sub_self];rfl
   have f:∀y:cg,(dU (l.take k) b++y::l.drop (k+1)).getD k c0=y:=fun y=>by have:=yq (dU (l.take k) b) y (l.drop (k+1)) c0;rw[e]at this;exact this
   have j:∀y z:cg,(dU (l.take k) b++y::l.drop (k+1)).set k z=dU (l.take k) b++z::l.drop (k+1):=fun y z=>by rw[List.set_append_right _ _ (by omega),e,Nat.sub_self];rfl
   have q:∀y:cg,(dU (l.take k) b++y::l.drop (k+1)).length=l.length:=fun y=>by rw[List.length_append,e,List.length_cons,List.length_drop];omega
   have hl:=h.1;have B:(k:Int)<(l.length:Int):=by omega
   have D:0≤(k:Int):=by omega
   have E:i64.wrap ((k:Int)+1)=((k+1:Nat):Int):=bF (by omega);have I:i64.wrap ((l.getD k c0).1+b)=(l.getD k c0).1+b:=wrap_i64 (by omega) (by omega);have J:i64.wrap ((l.getD k c0).2.1+b)=(l.getD k c0).2.1+b:=wrap_i64 (by omega) (by omega);simp only[gD,B,decide_true,if_true,u,D,and_self,Int.toNat_natCast,hk,v,A,q,f,j,I,J,E];rw[oa (d:=c0) hk];simp[dU]
  ·have B:¬((l.length:Int)<(l.length:Int)):=Int.lt_irrefl _;simp only[gD,B,decide_false,Bool.false_eq_true,if_false,List.take_length,List.drop_length,List.append_nil]
 unfold iQ;rw[BO h.1,Option.bind_some];have:iter (gD b l) (l,(0:Int))=some (dU l b):=C;rw[this];rfl
theorem Iw(d:Dt){n:Nat}(hn:n≤4096)(c:Wy):Nr (iZ d n c).1:=⟨Nat.le_trans (yc d n c) hn,fun x e=>by
 obtain⟨a,b,f,j,q,u⟩:=wH d n c x e;omega⟩
theorem Kz{l:Qk}{n:Nat}(hl:l.length≤4096)(h:∀x∈l,Rg n x)(hn:n≤4096){f:Nat}(q:f≤4096):Nr (dU l (f:Int)):=⟨by rw[nu];exact hl,fun x e=>by
 unfold dU at e;obtain⟨y,j,rfl⟩:=List.mem_map.1 e;obtain⟨a,b,u,v,z,A⟩:=h y j;simp only;omega⟩
def qG(d:Dt):Nat→QK
 | 0=>[]
 | n+1=>qG d n++[(d n).1*16+(d n).2.1,(d n).2.2]
def Eb(d:Dt)(n:Nat):QX:=bytesOf (qG d n)
def Sm(d:Dt)(n:Nat):Prop:=∀j,j<n→0≤(d j).1∧(d j).1≤2∧0≤(d j).2.1∧(d j).2.1≤2∧0≤(d j).2.2∧(d j).2.2≤3
theorem nc(d:Dt):∀n,(qG d n).length=2*n
 | 0=>rfl
 | n+1=>by simp[qG,nc d n];omega
theorem AL{d:Dt}:∀ {n:Nat},Sm d n→∀x∈qG d n,0≤x∧x≤255
 | 0,_,x,e=>by cases e
 | n+1,h,x,e=>by
  obtain⟨f,q,u,v,z,A⟩:=h n (by omega);simp only[qG,List.mem_append,List.mem_cons,List.not_mem_nil,or_false]at e;rcases e with e | rfl | rfl
  ·exact AL (fun j B=>h j (by omega)) x e
  ·omega
  ·omega
theorem uX:∀ {l k:QK},(∀x∈l,0≤x∧x≤255)→(∀x∈k,0≤x∧x≤255)→bytesOf l=bytesOf k→l=k
 | [],[],_,_,_=>rfl
 | [],y::k,_,_,h=>by simp[bytesOf]at h
 | x::l,[],_,_,h=>by simp[bytesOf]at h
 | x::l,y::k,f,j,h=>by
  simp only[bytesOf,List.map_cons,List.cons.injEq]at h;have q:=f x (by simp);have u:=j y (by simp);have e:x=y:=by have:=congrArg UInt8.toNat h.1;simp only[UInt8.toNat_ofNat']at this;omega
  rw[e,uX (fun z hz=>f z (by simp[hz])) (fun z hz=>j z (by simp[hz])) h.2]
theorem CS{d f:Dt}:∀ {n:Nat},Sm d n→Sm f n→qG d n=qG f n→∀j,j<n→d j=f j
 | 0,_,_,_,j,q=>by omega
 | n+1,u,v,h,j,q=>by
  simp only[qG]at h;obtain⟨z,g2⟩:=List.append_inj h (by rw[nc,nc]);by_cases e:j=n
  ·subst e;obtain⟨A,B,C,D,E,I⟩:=u j (by omega);obtain⟨J,L,M,N,O,V⟩:=v j (by omega);simp only[List.cons.injEq,and_true]at g2;refine Prod.ext (by omega) (Prod.ext (by omega) g2.2)
  ·exact CS (fun j q=>u j (by omega)) (fun j q=>v j (by omega)) z j (by omega)
theorem HW{d f:Dt}{n e:Nat}(q:Sm d n)(u:Sm f e)(h:Eb d n=Eb f e):n=e∧∀j,j<n→d j=f j:=by
 have h':=uX (AL q) (AL u) h;have hl:=congrArg List.length h';rw[nc,nc]at hl;obtain rfl:n=e:=by omega
 exact⟨rfl,CS q u h'⟩
theorem NC{a b:Int}(e:0≤a)(f:a≤2)(j:0≤b)(q:b≤2):bitsOf .or .u8 (u8.wrap ((u8.wrap a)*2 ^ (min (4:Int).toNat u8.bits))) b=a*16+b:=by
 rcases(show a=0∨a=1∨a=2 by omega)with rfl | rfl | rfl <;> rcases(show b=0∨b=1∨b=2 by omega)with rfl | rfl | rfl <;> decide
theorem Lz{cl:Qk}{o:QK}(q:cl.length≤4096)(O:o.length=cl.length+1){fr n:Nat}(hn:fr+n≤cl.length)(u:Sm (aQ cl o fr) n):pR cl o (fr:Int) ((fr+n:Nat):Int)=some (Eb (aQ cl o fr) n):=by
 have v:iter (iV cl o ((fr+n:Nat):Int)) (qG (aQ cl o fr) 0,((fr+0:Nat):Int))=some (qG (aQ cl o fr) n):=by
  refine gL (fun k=>(qG (aQ cl o fr) k,((fr+k:Nat):Int))) n (fun k hk=>?_) ?_
  ·obtain⟨z,A,B,C,V,X⟩:=u k hk;have e:((fr+k:Nat):Int)<((fr+n:Nat):Int):=by omega
   have D:0≤((fr+k:Nat):Int)∧((fr+k:Nat):Int)<(cl.length:Int):=by omega
   have E:i64.wrap (((fr+k:Nat):Int)+1)=((fr+k+1:Nat):Int):=bF (by omega);have I:0≤((fr+k+1:Nat):Int)∧((fr+k+1:Nat):Int)<(o.length:Int):=by omega
   have J:0≤(4:Int):=by omega
   have f:bitsOf .or .u8 (u8.wrap ((u8.wrap (cl.getD (fr+k) c0).2.2.1)*2 ^ (min (4:Int).toNat u8.bits))) (cl.getD (fr+k) c0).2.2.2=(aQ cl o fr k).1*16+(aQ cl o fr k).2.1:=NC z A B C;have j:o.getD (fr+k+1) 0=(aQ cl o fr k).2.2:=rfl;have L:=nc (aQ cl o fr) k;have g:∀x y:Int,((qG (aQ cl o fr) k).length+([x,y]:QK).length)*1≤140737488355328∧(qG (aQ cl o fr) k).length+([x,y]:QK).length≤9223372036854775807:=fun x y=>by simp;omega
   simp only[iV,e,D,E,I,J,and_self,decide_true,if_true,Int.toNat_natCast,f,j,g,qG];rfl
  ·have e:¬(((fr+n:Nat):Int)<((fr+n:Nat):Int)):=Int.lt_irrefl _;simp only[iV,e,decide_false,Bool.false_eq_true,if_false]
 have M:i64.wrap (((fr+n:Nat):Int) - (fr:Int))=(n:Int):=by rw[wrap_i64 (by omega) (by omega)];omega
 have N:i64.wrap (2*(n:Int))=2*(n:Int):=wrap_i64 (by omega) (by omega);unfold pR;rw[M,N,if_pos (by omega)];have:iter (iV cl o ((fr+n:Nat):Int)) (List.replicate (0:Int).toNat (0:Int),(fr:Int))=some (qG (aQ cl o fr) n):=v;rw[this];rfl
def tv(cl:Qk)(e:Int)(l:Qk):QZ:=l.map fun x=>pH cl e x.1.toNat (x.2.1.toNat - x.1.toNat)
def CQ(l:Qk):Qk:=if l=[]then[c0]else l
theorem JA{cl:Qk}(B:Fb cl)(o:QK){e:Int}(D:1≤e)(E:e≤64){l:Qk}(hl:l.length≤4096)(I:∀x∈l,Rg cl.length x):lV cl o l e=some (some ((cl,o),(CQ l,tv cl e (CQ l)))):=by
 have J:=B.1;have key:∀m:Qk,m.length≤4096→(∀x∈m,∃a b:Nat,x.1=(a:Int)∧x.2.1=(b:Int)∧a≤b∧b≤cl.length)→iter (gz cl o e m) (([]:QZ),(0:Int))=some (tv cl e m):=fun m N u=>by
  have:iter (gz cl o e m) (tv cl e (m.take 0),((0:Nat):Int))=some (tv cl e m):=by
   refine gL (fun k=>(tv cl e (m.take k),(k:Int))) m.length (fun k hk=>?_) ?_
   ·obtain⟨a,b,j,q,C,v⟩:=u (m.getD k c0) (qt hk);have z:(k:Int)<(m.length:Int):=by omega
    have L:0≤(k:Int):=by omega
    have A:=yd B o D E C v;have f:(tv cl e (m.take k)).length=k:=by unfold tv;rw[List.length_map,List.length_take];omega
    have g:∀x:QK,(k+([x]:QZ).length)*24≤140737488355328∧k+([x]:QZ).length≤9223372036854775807:=fun x=>by simp;omega
    simp only[gz,z,L,and_self,decide_true,if_true,Int.toNat_natCast,j,q,A,Option.bind_some,f,g,bF (show k≤9000000000000000000 by omega)];rw[oa (d:=c0) hk];unfold tv;rw[List.map_append,List.map_cons,List.map_nil,j,q,Int.toNat_natCast,Int.toNat_natCast]
   ·have z:¬((m.length:Int)<(m.length:Int)):=Int.lt_irrefl _;simp only[gz,z,decide_false,Bool.false_eq_true,if_false,List.take_length]
  exact this
 unfold lV CQ;cases l with
 | nil =>
  rw[if_pos (by simp),Option.bind_some,key [c0] (by simp) (fun x u=>by
   obtain rfl:x=c0:=by simpa using u
   exact⟨0,0,rfl,rfl,Nat.le_refl _,Nat.zero_le _⟩)]
  rfl
 | cons x r =>
  rw[if_neg (by simp;omega),Option.bind_some,key (x::r) hl (fun y M=>by
   obtain⟨a,b,j,q,C,v⟩:=I y M;exact⟨a,b,j,q,by omega,v⟩),if_neg (by simp)]
  rfl
end
end Go.Proofs.YtbedjpdfkmfplaaGreatDoor.T
