import Derived.Test.YtmcemnfjddoejaaGreatDoorTvFbm
import Derived.Test.YtmcemnfjddoejaaGreatDoorTvT23cDeskFaults
namespace Go.Proofs.YtmcemnfjddoejaaGreatDoor.T
open Go Go.Tv Go.Proofs
open Go.IntKind (i64 u8)
noncomputable section
theorem GU{o:QK}{fr:Nat}(u:fr<o.length)(cl:XK){x:Int}(j:(o.getD fr 0 == 3)=(x == 3))(c:Wy)(e n g:Int)(last:Bool):fM cl o (fr:Int) e n g last c.1 c.2.1 c.2.2.1 c.2.2.2.1 c.2.2.2.2.1 c.2.2.2.2.2=some (rM c x e n g last):=by
 obtain⟨v,b,p⟩:=I8 (o:=[x]) (fr:=0) (by simp) [] e n g last c.1 c.2.1 c.2.2.1 c.2.2.2.1 c.2.2.2.2.1 c.2.2.2.2.2;have f:fM [] [x] 0 e n g last c.1 c.2.1 c.2.2.1 c.2.2.2.1 c.2.2.2.2.1 c.2.2.2.2.2=some (v,b):=p;unfold rM;rw[f,Option.getD_some,←f];have q:(0≤(fr:Int)∧(fr:Int)<(o.length:Int))=True:=eq_true (by omega);have g2:(0≤(0:Int)∧(0:Int)<(([x]:QK).length:Int))=True:=eq_true (by simp);have g3:([x]:QK).getD (0:Int).toNat 0=x:=rfl;unfold fM;simp only[q,g2,g3,if_true,Int.toNat_natCast,j]
theorem qs(fr:Nat)(b:Int):vU fr b<0↔b<0:=by unfold vU;split <;> omega
theorem Gm(fr k:Nat):vU fr ((k:Nat):Int)=((fr+k:Nat):Int):=by unfold vU;rw[if_neg (by omega)];omega
theorem Ce{cl:XK}(J:EP cl){o:QK}(ho:o.length=cl.length+1){fr n:Nat}(hn:fr+n≤cl.length)(c:Wy)(t0:1≤c.2.1)(t1:c.2.1≤64){a:Nat}(hp:(o.getD (fr+a) 0 == 3)=(zj (aR cl o fr) a == 3)){all:Qq}(a1:all.length=n+1){F:Nat→Int×Int}
  (hF:∀k,a<k→k≤n→(all.getD k (0,0)).1=(F k).1∧(k<n→(all.getD k (0,0)).2=vU fr (F k).2)):∀m k e j full sp z,k+m=n→a≤k →
  iter (eQ cl o ((fr+a:Nat):Int) (fr:Int) ((fr+n:Nat):Int) all c.1 c.2.1 c.2.2.1 c.2.2.2.1 c.2.2.2.2.1 c.2.2.2.2.2) (e,vU fr j,iz (aR cl o fr) c.2.1 a (k - a),full,sp,z,((fr+k+1:Nat):Int)) =
   some ((gU (aR cl o fr) n c F a m k e j full sp z).1,vU fr (gU (aR cl o fr) n c F a m k e j full sp z).2)
 | 0,k,e,j,full,sp,z,hk,ha=>by
  have E:¬(((fr+k+1:Nat):Int)≤((fr+n:Nat):Int)):=by omega
  exact dq (by simp only[eQ,E,decide_false,Bool.false_eq_true,if_false,gU])
 | m+1,k,e,j,full,sp,z,hk,ha=>by
  have hl:=J.1;have L:=we cl o fr c.2.1 a;obtain⟨b0,b1⟩:=sV J t0 t1 (fr+a) (k - a) (by omega);obtain⟨M,-,-⟩:=wq (c:=cl.getD (fr+k) c0) b0 (by omega) t0 t1 (J.2 _).1 (J.2 _).2;have a2:vL (cl.getD (fr+k) c0) (rz cl c.2.1 (fr+a) (k - a)) c.2.1=iz (aR cl o fr) c.2.1 a (k+1 - a):=by rw[←L,show k+1 - a=(k - a)+1 by omega];simp only[rz];rw[show fr+a+(k - a)=fr+k by omega]
  rw[a2,L]at M;obtain⟨Z,-,-⟩:=sS (cl:=cl) o (show fr+k≤fr+k+1 by omega) (by omega) (by omega);have e3:=FG cl (o:=o) (i:=fr+k+1) (by omega);rw[FQ cl o fr k]at e3;have E:((fr+k+1:Nat):Int)≤((fr+n:Nat):Int):=by omega
  have q2:i64.wrap (((fr+k+1:Nat):Int) - 1)=((fr+k:Nat):Int):=lN (by omega);have q3:0≤((fr+k:Nat):Int):=by omega
  have q4:((fr+k:Nat):Int)<(cl.length:Int):=by omega
  have q5:i64.wrap (((fr+k+1:Nat):Int)+1)=((fr+(k+1)+1:Nat):Int):=bO (by omega);have q6:i64.wrap (((fr+k+1:Nat):Int) - (fr:Int))=((k+1:Nat):Int):=by rw[wrap_i64 (by omega) (by omega)];omega
  have q7:0≤((k+1:Nat):Int)∧((k+1:Nat):Int)<(all.length:Int):=by omega
  have ht:(((dR cl (fr+k) (fr+k+1):Nat):Int) == ((fr+k+1:Nat):Int)) = !(kf (aR cl o fr k)):=by
   have hh:rR (cl.getD (fr+k) c0)=kf (aR cl o fr k):=rfl;have:=(sS (cl:=cl) o (show fr+k≤fr+k by omega) (by omega) (by omega)).2.2;simp only[dR];rw[hh];cases he:kf (aR cl o fr k)with
   | true =>
    rw[if_pos ⟨by omega,rfl⟩,Bool.not_true,beq_eq_false_iff_ne];omega
   | false =>rw[if_neg (fun x=>by cases x.2)];simp
  have N:(if((cl.getD (fr+k) c0).2.2.2 == 1)=true then some (i64.wrap (sp+1))else some sp)=some (if(aR cl o fr k).2.1=1 then i64.wrap (sp+1)else sp):=by
   show(if((aR cl o fr k).2.1 == 1)=true then some (i64.wrap (sp+1))else some sp)=_;by_cases h:(aR cl o fr k).2.1=1
   ·rw[if_pos h,if_pos (by simpa using h)]
   ·rw[if_neg h,if_neg (by simpa using h)]
  have O:gU (aR cl o fr) n c F a (m+1) k e j full sp z=(
    let s:=if(aR cl o fr k).2.1=1 then i64.wrap (sp+1)else sp
    let f:=if kf (aR cl o fr k)=true then(full,z)else(iz (aR cl o fr) c.2.1 a (k+1 - a),s)
    if f.1 > c.1 then(e,j)
    else if(aR cl o fr k).2.2=0∨(k+1<n∧(F (k+1)).2<0)then gU (aR cl o fr) n c F a m (k+1) e j f.1 s f.2
    else
     let p:=rM c (zj (aR cl o fr) a) (aR cl o fr k).2.2 (if(aR cl o fr k).2.2=3 then i64.wrap (f.1+1)else f.1) f.2 (k+1 == n)
     if p.2=true∧(j<0∨i64.wrap (p.1+(F (k+1)).1)<e)then gU (aR cl o fr) n c F a m (k+1) (i64.wrap (p.1+(F (k+1)).1)) ((k+1:Nat):Int) f.1 s f.2
     else gU (aR cl o fr) n c F a m (k+1) e j f.1 s f.2):=rfl
  rw[O];clear O;simp only;generalize (if(aR cl o fr k).2.1=1 then i64.wrap (sp+1)else sp)=s at N;have q:(if(((dR cl (fr+k) (fr+k+1):Nat):Int) == ((fr+k+1:Nat):Int))=true then some (iz (aR cl o fr) c.2.1 a (k+1 - a),s)else some (full,z))=some (if kf (aR cl o fr k)=true then(full,z)else(iz (aR cl o fr) c.2.1 a (k+1 - a),s)):=by rw[ht];cases kf (aR cl o fr k) <;> rfl
  generalize (if kf (aR cl o fr k)=true then(full,z)else(iz (aR cl o fr) c.2.1 a (k+1 - a),s))=f at q;obtain⟨A,f2⟩:=f;obtain⟨r1,r2⟩:=hF (k+1) (by omega) (by omega);simp only;have ih:=Ce J ho hn c t0 t1 hp a1 hF m (k+1);by_cases I:A > c.1
  ·rw[if_pos I];refine dq ?_;simp only[eQ,E,q2,q3,q4,M,Z,and_self,decide_true,if_true,Option.bind_some,Int.toNat_natCast];rw[N,Option.bind_some,q];simp only[Option.bind_some,I,decide_true,if_true]
  ·rw[if_neg I];have C:(if(!((aR cl o fr k).2.2 != 0))=true then some true else(if decide (((fr+k+1:Nat):Int)<((fr+n:Nat):Int))=true then some (decide ((all.getD (k+1) (0,0)).2<0))else some false))=some (decide ((aR cl o fr k).2.2=0∨(k+1<n∧(F (k+1)).2<0))):=by
    by_cases V:(aR cl o fr k).2.2=0
    ·rw[if_pos (by simp[V]),decide_eq_true (.inl V)]
    ·rw[if_neg (by simp[V])];by_cases g2:k+1<n
     ·rw[if_pos (by rw[decide_eq_true_eq];omega),r2 g2];have:(vU fr (F (k+1)).2<0)=((aR cl o fr k).2.2=0∨k+1<n∧(F (k+1)).2<0):=propext ⟨fun h=> .inr ⟨g2,(qs _ _).1 h⟩,fun h=>(qs _ _).2 (h.elim (fun x=>absurd x V) (fun x=>x.2))⟩;simp only[this]
     ·rw[if_neg (by rw[decide_eq_true_eq];omega),decide_eq_false (fun h=>h.elim V (fun x=>g2 x.1))]
   by_cases u:(aR cl o fr k).2.2=0∨(k+1<n∧(F (k+1)).2<0)
   ·rw[if_pos u,←ih _ _ _ _ _ (by omega) (by omega)];refine ga ?_;simp only[eQ,E,q2,q3,q4,M,Z,and_self,decide_true,if_true,Option.bind_some,Int.toNat_natCast];rw[N,Option.bind_some,q];simp only[Option.bind_some,I,decide_false,Bool.false_eq_true,if_false,e3,q6,q7,and_self,if_true,Int.toNat_natCast];rw[C,decide_eq_true u];simp only[Option.bind_some,if_true,q5]
   ·rw[if_neg u];have X:(if((aR cl o fr k).2.2 == 3)=true then some (i64.wrap (A+1))else some A)=some (if(aR cl o fr k).2.2=3 then i64.wrap (A+1)else A):=by
     by_cases g:(aR cl o fr k).2.2=3
     ·rw[if_pos g,if_pos (by simpa using g)]
     ·rw[if_neg g,if_neg (by simpa using g)]
    have D:=GU (o:=o) (fr:=fr+a) (by omega) cl hp c (aR cl o fr k).2.2 (if(aR cl o fr k).2.2=3 then i64.wrap (A+1)else A) f2 (k+1 == n);have v:(((fr+k+1:Nat):Int) == ((fr+n:Nat):Int))=(k+1 == n):=by
     by_cases g:k+1=n
     ·rw[beq_iff_eq.2 g,beq_iff_eq];omega
     ·rw[beq_eq_false_iff_ne.2 g,beq_eq_false_iff_ne];omega
    generalize rM c (zj (aR cl o fr) a) (aR cl o fr k).2.2 (if(aR cl o fr k).2.2=3 then i64.wrap (A+1)else A) f2 (k+1 == n)=p at D;obtain⟨p1,p2⟩:=p;simp only;have Y:(if p2=true then(if decide (vU fr j<0)=true then some true else some (decide (i64.wrap (p1+(F (k+1)).1)<e)))else some false)=some (decide (p2=true∧(j<0∨i64.wrap (p1+(F (k+1)).1)<e))):=by
     cases p2 with
     | false=>simp
     | true =>
      by_cases g:j<0
      ·have:vU fr j<0:=(qs _ _).2 g;simp[this,g]
      ·have:¬vU fr j<0:=fun h=>g ((qs _ _).1 h)
       simp[this,g]
    by_cases B:p2=true∧(j<0∨i64.wrap (p1+(F (k+1)).1)<e)
    ·rw[if_pos B,←ih _ _ _ _ _ (by omega) (by omega),Gm];refine ga ?_;simp only[eQ,E,q2,q3,q4,M,Z,and_self,decide_true,if_true,Option.bind_some,Int.toNat_natCast];rw[N,Option.bind_some,q];simp only[Option.bind_some,I,decide_false,Bool.false_eq_true,if_false,e3,q6,q7,and_self,if_true,Int.toNat_natCast];rw[C,decide_eq_false u,Option.bind_some,if_neg (by decide),X,Option.bind_some,v,D,Option.bind_some];simp only[r1];rw[Y,decide_eq_true B];simp only[Option.bind_some,if_true,q5];rfl
    ·rw[if_neg B,←ih _ _ _ _ _ (by omega) (by omega)];refine ga ?_;simp only[eQ,E,q2,q3,q4,M,Z,and_self,decide_true,if_true,Option.bind_some,Int.toNat_natCast];rw[N,Option.bind_some,q];simp only[Option.bind_some,I,decide_false,Bool.false_eq_true,if_false,e3,q6,q7,and_self,if_true,Int.toNat_natCast];rw[C,decide_eq_false u,Option.bind_some,if_neg (by decide),X,Option.bind_some,v,D,Option.bind_some];simp only[r1];rw[Y,decide_eq_false B];simp only[Option.bind_some,Bool.false_eq_true,if_false,q5]
def JR(d:Dt)(n:Nat)(c:Wy)(e j:Nat)(t:Qq):Prop :=
 t.length=n+1∧∀i,i≤j→(t.getD (n - j+i) (0,0)).1=((eC d n c j).getD i (0,0)).1∧(i<j→(t.getD (n - j+i) (0,0)).2=vU e ((eC d n c j).getD i (0,0)).2)
theorem Cb{α:Type}{l:List α}{i k:Nat}{x d:α}(hi:i<l.length):(l.set i x).getD k d=if k=i then x else l.getD k d:=by
 simp only[List.getD_eq_getElem?_getD,List.getElem?_set];by_cases h:i=k
 ·subst h;simp[hi]
 ·rw[if_neg h,if_neg (Ne.symm h)]
theorem set_set{α:Type}(l:List α)(i:Nat)(x y:α):(l.set i x).set i y=l.set i y:=by simp
theorem GQ{f:XK}(V:EP f){o:QK}(ho:o.length=f.length+1){e n:Nat}(hn:e+n≤f.length)(c:Wy)(t0:1≤c.2.1)(t1:c.2.1≤64)(h3:o.getD e 0≠3)(n0:0<n):
  ∃t,iter (fS f o (e:Int) ((e+n:Nat):Int) c.1 c.2.1 c.2.2.1 c.2.2.2.1 c.2.2.2.2.1 c.2.2.2.2.2) (List.replicate (n+1) (0,0),((e+n - 1:Nat):Int))=some t∧JR (aR f o e) n c e n t:=by
 have hl:=V.1;refine dT (fun z:Qq×Int=>∃j:Nat,j≤n∧z.2=(e:Int)+(n:Int) - 1 - (j:Int)∧JR (aR f o e) n c e j z.1) (fun z=>(z.2+1 - (e:Int)).toNat) _ ?_
  ⟨0,by omega,by simp only;omega,by simp,fun i hi=>⟨?_,fun h=>by omega⟩⟩
 ·rintro⟨t,v⟩ ⟨j,hj,hv,q,u⟩;simp only at hv;by_cases a1:j<n
  ·left
   obtain⟨a,ha⟩:∃a,n=a+j+1:=⟨n - j - 1,by omega⟩;obtain rfl:v=((e+a:Nat):Int):=by omega
   simp only at q u;have J:((e+a:Nat):Int)≥(e:Int):=by omega
   have X:i64.wrap (((e+a:Nat):Int) - (e:Int))=(a:Int):=by rw[wrap_i64 (by omega) (by omega)];omega
   have L:0≤(a:Int)∧(a:Int)<(t.length:Int):=by omega
   have B:a<t.length:=by omega
   have Y:i64.wrap (((e+a:Nat):Int) - 1)=(e:Int)+(n:Int) - 1 - ((j+1:Nat):Int):=by rw[wrap_i64 (by omega) (by omega)];omega
   have C:(if(((e+a:Nat):Int) == (e:Int))=true then some true else(if 0≤((e+a:Nat):Int)∧((e+a:Nat):Int)<(o.length:Int)then some (o.getD (e+a) 0 != 0)else none))=some (decide (a=0∨zj (aR f o e) a≠0)):=by
    by_cases g:a=0
    ·subst g;simp
    ·have g1:(((e+a:Nat):Int) == (e:Int))=false:=by rw[beq_eq_false_iff_ne];omega
     rw[g1,if_neg (by decide),if_pos (by omega),ni f o e (by omega)];by_cases g2:zj (aR f o e) a=0 <;> simp[g,g2]
   have D:vS (aR f o e) n c (n - (j+1)) (eC (aR f o e) n c j)=vS (aR f o e) n c a (eC (aR f o e) n c j):=by rw[show n - (j+1)=a by omega]
   have A:∀x:Int×Int,(x.1=(vS (aR f o e) n c a (eC (aR f o e) n c j)).1∧x.2=vU e (vS (aR f o e) n c a (eC (aR f o e) n c j)).2)→JR (aR f o e) n c e (j+1) (t.set a x):=fun x Z=>by
    refine⟨by rw[List.length_set];exact q,fun i hi=>?_⟩;rw[show n - (j+1)+i=a+i by omega,Cb B];cases i with
    | zero =>
     rw[if_pos (by omega)];simp only[eC,List.getD_cons_zero,D];exact⟨Z.1,fun _=>Z.2⟩
    | succ i =>rw[if_neg (by omega)];obtain⟨E,I⟩:=u i (by omega);rw[show n - j+i=a+(i+1) by omega]at E I;simp only[eC,List.getD_cons_succ];exact⟨E,fun h=>I (by omega)⟩
   by_cases hb:a=0∨zj (aR f o e) a≠0
   ·have hp:(o.getD (e+a) 0 == 3)=(zj (aR f o e) a == 3):=by
     by_cases g:a=0
     ·subst g;rw[Nat.add_zero,beq_eq_false_iff_ne.2 h3];rfl
     ·rw[ni f o e (by omega)]
    have p:=Ce V ho hn c t0 t1 hp (all:=t.set a (0,-1)) (F:=fun k=>(eC (aR f o e) n c j).getD (k - a - 1) (0,0)) (by rw[List.length_set];exact q) (fun k k1 k2=>by
     rw[Cb B,if_neg (by omega)];obtain⟨E,I⟩:=u (k - a - 1) (by omega);rw[show n - j+(k - a - 1)=k by omega]at E I;exact⟨E,fun h=>I (by omega)⟩) (n - a) a 0 (-1) 0 0 0 (by omega) (Nat.le_refl _)
    rw[Nat.sub_self]at p;simp only[iz]at p;have M:vU e (-1) = -1:=rfl;rw[M]at p;have N:vS (aR f o e) n c a (eC (aR f o e) n c j)=gU (aR f o e) n c (fun k=>(eC (aR f o e) n c j).getD (k - a - 1) (0,0)) a (n - a) a 0 (-1) 0 0 0:=by unfold vS;rw[if_pos hb]
    rw[←N]at p;generalize vS (aR f o e) n c a (eC (aR f o e) n c j)=r at p A;have O:nb f o ((e+a:Nat):Int) (e:Int) ((e+n:Nat):Int) (t.set a (0,-1)) c.1 c.2.1 c.2.2.1 c.2.2.2.1 c.2.2.2.2.1 c.2.2.2.2.2=some (r.1,vU e r.2):=by unfold nb;rw[show i64.wrap (((e+a:Nat):Int)+1)=((e+a+1:Nat):Int)from bO (by omega),p];rfl
    refine⟨(t.set a (r.1,vU e r.2),(e:Int)+(n:Int) - 1 - ((j+1:Nat):Int)),?_,⟨j+1,by omega,rfl,A _ ⟨rfl,rfl⟩⟩,by simp only;omega⟩;simp only[fS,J,X,L,B,and_self,decide_true,if_true,Int.toNat_natCast];rw[C,decide_eq_true hb];simp only[Option.bind_some,if_true,O,List.length_set,L,B,and_self,set_set,Y]
   ·have N:vS (aR f o e) n c a (eC (aR f o e) n c j)=(0,-1):=by unfold vS;rw[if_neg hb]
    refine⟨(t.set a (0,-1),(e:Int)+(n:Int) - 1 - ((j+1:Nat):Int)),?_,⟨j+1,by omega,rfl,A _ (by rw[N];exact⟨rfl,rfl⟩)⟩,by simp only;omega⟩;simp only[fS,J,X,L,B,and_self,decide_true,if_true,Int.toNat_natCast];rw[C,decide_eq_false hb];simp only[Option.bind_some,Bool.false_eq_true,if_false,Y]
  ·right
   obtain rfl:j=n:=by omega
   refine⟨t,?_,q,u⟩;have J:¬(v≥(e:Int)):=by omega
   simp only[fS,J,decide_false,Bool.false_eq_true,if_false]
 ·obtain rfl:i=0:=by omega
  simp[eC]
theorem zW{f:XK}(u:EP f){o:QK}(D:o.length=f.length+1){e n:Nat}(hn:e+n≤f.length)(c:Wy)(A:1≤c.2.1)(B:c.2.1≤64){t:Qq}(ht:JR (aR f o e) n c e n t):
  ∀m a out,a≤n→n≤a+m→out.length≤a→(a<n→0≤((eC (aR f o e) n c n).getD a (0,0)).2)→iter (fZ f o (e:Int) ((e+n:Nat):Int) c.2.1 t) (out,((e+a:Nat):Int))=some (out++dI (lM (aR f o e) n c.2.1 (eC (aR f o e) n c n) m a) (e:Int))
 | 0,a,out,E,I,J,C=>by
  obtain rfl:a=n:=by omega
  have j:¬(((e+a:Nat):Int)<((e+a:Nat):Int)):=by omega
  exact dq (by simp only[fZ,j,decide_false,Bool.false_eq_true,if_false,lM,dI,List.map_nil,List.append_nil])
 | m+1,a,out,E,I,J,C=>by
  have hl:=u.1;obtain⟨v,p⟩:=ht;by_cases ha:a<n
  ·obtain⟨L,M,z⟩:=yy (aR f o e) n c a ha (C ha);have hT:=(p a (by omega)).2 ha;rw[Nat.sub_self,Nat.zero_add]at hT;simp only[lM];rw[if_pos ha,show ∀(x:cW) l,dI (x::l) (e:Int)=dI [x] (e:Int)++dI l (e:Int)from fun _ _=>rfl,Fs,←List.append_assoc];generalize ((eC (aR f o e) n c n).getD a (0,0)).2=b at L M z hT;obtain⟨q,rfl⟩:∃q:Nat,b=(q:Int):=⟨b.toNat,by omega⟩;rw[Int.toNat_natCast]at z ⊢;rw[←zW u D hn c A B ⟨v,p⟩ m q _ (by omega) (by omega) (by simp;omega) (fun h=>z (by omega))];refine ga ?_;rw[Gm]at hT;have j:((e+a:Nat):Int)<((e+n:Nat):Int):=by omega
   have N:i64.wrap (((e+a:Nat):Int) - (e:Int))=(a:Int):=by rw[wrap_i64 (by omega) (by omega)];omega
   have O:0≤(a:Int)∧(a:Int)<(t.length:Int):=by omega
   have V:a<t.length:=by omega
   have X:0≤((e+q:Nat):Int)∧((e+q:Nat):Int)<(o.length:Int):=by omega
   simp only[fZ,j,N,O,V,hT,X,and_self,decide_true,if_true,Int.toNat_natCast];rw[sa u o A B (by omega) (by omega),nD f o e c.2.1 (by omega),ni f o e (by omega)];simp only[Option.bind_some,List.length_singleton];rw[if_pos (by omega)]
  ·obtain rfl:a=n:=by omega
   have j:¬(((e+a:Nat):Int)<((e+a:Nat):Int)):=by omega
   simp only[lM];rw[if_neg ha];exact dq (by simp only[fZ,j,decide_false,Bool.false_eq_true,if_false,dI,List.map_nil,List.append_nil])
theorem Bf{j:XK}(q:EP j){o:QK}(u:o.length=j.length+1){f n:Nat}(hn:f+n≤j.length)(c:Wy)(v:1≤c.2.1)(z:c.2.1≤64)(B:o.getD f 0≠3):
  lI j o (f:Int) ((f+n:Nat):Int) c.1 c.2.1 c.2.2.1 c.2.2.2.1 c.2.2.2.2.1 c.2.2.2.2.2=some (match sY (aR j o f) n c with | some l=>(dI l (f:Int),true) | none=>([],false)):=by
 have hl:=q.1;unfold lI sY;by_cases A:n=0
 ·subst A;rw[if_pos (by rw[decide_eq_true_eq];omega),if_pos rfl];rfl
 ·have C:i64.wrap (i64.wrap (((f+n:Nat):Int) - (f:Int))+1)=((n+1:Nat):Int):=by rw[wrap_i64 (x:=((f+n:Nat):Int) - (f:Int)) (by omega) (by omega),wrap_i64 (by omega) (by omega)];omega
  have D:i64.wrap (((f+n:Nat):Int) - 1)=((f+n - 1:Nat):Int):=by rw[wrap_i64 (by omega) (by omega)];omega
  obtain⟨t,E,ht⟩:=GQ q u hn c v z B (by omega);have p:=(ht.2 0 (by omega)).2 (by omega);rw[Nat.sub_self]at p;rw[if_neg (by rw[decide_eq_true_eq];omega),if_neg A,C,D,if_pos (by omega),Int.toNat_natCast,E,Option.bind_some];have I:=ht.1;rw[if_pos (by omega),if_pos (by show 0<t.length;omega)];rw[show(0:Int).toNat=0 from rfl,p];by_cases e:((eC (aR j o f) n c n).getD 0 (0,0)).2<0
  ·rw[if_pos (by rw[decide_eq_true_eq];exact(qs _ _).2 e),if_pos e]
  ·rw[if_neg (by rw[decide_eq_true_eq];exact fun h=>e ((qs _ _).1 h)),if_neg e];have:=zW q u hn c v z ht n 0 [] (by omega) (by omega) (by simp) (fun _=>by omega);rw[Nat.add_zero,List.nil_append]at this;rw[this];rfl
theorem KN{j:XK}(q:EP j){o:QK}(u:o.length=j.length+1){f n:Nat}(hn:f+n≤j.length)(c:Wy)(v:1≤c.2.1)(x:c.2.1≤64)(z:o.getD f 0≠3):
  iy j o (f:Int) ((f+n:Nat):Int) c.1 c.2.1 c.2.2.1 c.2.2.2.1 c.2.2.2.2.1 c.2.2.2.2.2=some (dI (iE (aR j o f) n c).1 (f:Int),(iE (aR j o f) n c).2):=by
 unfold iy iE;rw[zr q u hn c.1 v x,Bf q u hn c v x z];by_cases p:c.2.2.1=1
 ·have e:(c.2.2.1 == 1)=true:=by simpa using p
  rw[if_pos e,if_pos p];cases sY (aR j o f) n c <;> simp[e]
 ·have e:(c.2.2.1 == 1)=false:=by simpa using p
  rw[if_neg (by rw[e];decide),if_neg p];simp[e]
theorem wB{α:Type}(p:List α)(x:α)(l:List α)(d:α):(p++x::l).getD p.length d=x:=by simp[List.getD_eq_getElem?_getD]
theorem zL(d:Dt)(n:Nat)(e c:Int):∀m a,(gu d n e c m a).length≤m
 | 0,_=>by simp[gu]
 | m+1,a=>by
  have:=zL d n e c m (lu d n e c a).1;simp only[gu];split
  ·simp only[List.length_cons];omega
  ·simp
theorem BH(d:Dt)(n:Nat)(c:Int)(T:Qq):∀m a,(lM d n c T m a).length≤m
 | 0,_=>by simp[lM]
 | m+1,a=>by
  have:=BH d n c T m (T.getD a (0,0)).2.toNat;simp only[lM];split
  ·simp only[List.length_cons];omega
  ·simp
theorem yr(d:Dt)(n:Nat)(c:Wy):(iE d n c).1.length≤n:=by
 have e:=zL d n c.1 c.2.1 n 0;have q:=BH d n c.2.1 (eC d n c n) n 0;unfold iE sY;by_cases f:c.2.2.1=1
 ·rw[if_pos f];by_cases j:n=0
  ·rw[if_pos j];simp
  ·rw[if_neg j];by_cases p:((eC d n c n).getD 0 (0,0)).2<0
   ·rw[if_pos p];exact e
   ·rw[if_neg p];exact q
 ·rw[if_neg f];exact e
theorem nh(l:XK)(b:Int):(dI l b).length=l.length:=by simp[dI]
def Rg(n:Nat)(x:cW):Prop:=∃a b:Nat,x.1=(a:Int)∧x.2.1=(b:Int)∧a<b∧b≤n
theorem Ad(d:Dt)(n:Nat)(f e:Int):∀m a,∀x∈gu d n f e m a,Rg n x
 | 0,_,x,c=>by simp[gu]at c
 | m+1,a,x,c=>by
  simp only[gu]at c;split at c
  ·rename_i ha;have h:=ya d f e ha;rcases List.mem_cons.1 c with rfl | c
   ·exact⟨a,_,rfl,rfl,h.1,h.2⟩
   ·exact Ad d n f e m _ x c
  ·cases c
theorem C5(d:Dt){n:Nat}(e:Int){T:Qq}(hT:∀a,a<n→0≤(T.getD a (0,0)).2→(a:Int)<(T.getD a (0,0)).2∧(T.getD a (0,0)).2≤(n:Int)∧((T.getD a (0,0)).2<(n:Int)→0≤(T.getD (T.getD a (0,0)).2.toNat (0,0)).2)):∀m a,(a<n→0≤(T.getD a (0,0)).2)→∀x∈lM d n e T m a,Rg n x
 | 0,_,_,x,c=>by simp[lM]at c
 | m+1,a,f,x,c=>by
  simp only[lM]at c;split at c
  ·rename_i ha;obtain⟨p,q,j⟩:=hT a ha (f ha);rcases List.mem_cons.1 c with rfl | c
   ·exact⟨a,_,rfl,rfl,by omega,by omega⟩
   ·exact C5 d e hT m _ (fun _=>j (by omega)) x c
  ·cases c
theorem xc(d:Dt)(n:Nat)(c:Wy):∀x∈(iE d n c).1,Rg n x:=by
 have e:=Ad d n c.1 c.2.1 n 0;unfold iE sY;by_cases f:c.2.2.1=1
 ·rw[if_pos f];by_cases j:n=0
  ·rw[if_pos j];intro x q;cases q
  ·rw[if_neg j];by_cases p:((eC d n c n).getD 0 (0,0)).2<0
   ·rw[if_pos p];exact e
   ·rw[if_neg p];exact C5 d c.2.1 (yy d n c) n 0 (fun _=>by omega)
 ·rw[if_neg f];exact e
theorem Jr(l:XK)(a b:Int):dI (dI l a) b=dI l (a+b):=by
 unfold dI;rw[List.map_map];refine List.map_congr_left fun x _=>?_
 simp only[Function.comp];rw[Int.add_assoc,Int.add_assoc]
theorem GS(l:XK):dI l 0=l:=by
 unfold dI
 conv=>rhs;rw[←List.map_id l]
 refine List.map_congr_left fun x _=>?_
 simp only[Int.add_zero,id]
def Nr(l:XK):Prop:=l.length≤4096∧∀x∈l,-10000≤x.1∧x.1≤10000 ∧ -10000≤x.2.1∧x.2.1≤10000
theorem C4{l:XK}(h:l.length≤4096):pY l=some l:=by
 unfold pY;cases l with
 | nil=>rfl
 | cons x r =>
  rw[if_neg (by simp),if_pos (by simp only[List.length_nil];omega)];rfl
theorem Cc{l:XK}(h:Nr l){b:Int}(E : -10000≤b)(I:b≤10000):iD l b=some (dI l b):=by
 have x:iter (fT b l) ((dI (l.take 0) b++l.drop 0),((0:Nat):Int))=some (dI l b):=by
  refine iA (fun k=>(dI (l.take k) b++l.drop k,(k:Int))) l.length (fun k hk=>?_) ?_
  ·have J:=h.2 (l.getD k c0) (uk hk);have p:(dI (l.take k) b++l.drop k).length=l.length:=by rw[List.length_append,nh,List.length_take,List.length_drop];omega
   have c:(dI (l.take k) b).length=k:=by rw[nh,List.length_take];omega
   have q:(dI (l.take k) b++l.drop k).getD k c0=l.getD k c0:=by have:=wB (dI (l.take k) b) (l.getD k c0) (l.drop (k+1)) c0;rw[c]at this;rw[yn (d:=c0) hk];exact this
   have u:∀y:cW,(dI (l.take k) b++l.drop k).set k y=dI (l.take k) b++y::l.drop (k+1):=fun y=>by rw[yn (d:=c0) hk,List.set_append_right _ _ (by omega),c,Nat.sub_self];rfl
   have e:∀y:cW,(dI (l.take k) b++y::l.drop (k+1)).getD k c0=y:=fun y=>by have:=wB (dI (l.take k) b) y (l.drop (k+1)) c0;rw[c]at this;exact this
   have f:∀y z:cW,(dI (l.take k) b++y::l.drop (k+1)).set k z=dI (l.take k) b++z::l.drop (k+1):=fun y z=>by rw[List.set_append_right _ _ (by omega),c,Nat.sub_self];rfl
   have j:∀y:cW,(dI (l.take k) b++y::l.drop (k+1)).length=l.length:=fun y=>by rw[List.length_append,c,List.length_cons,List.length_drop];omega
   have hl:=h.1;have v:(k:Int)<(l.length:Int):=by omega
   have A:0≤(k:Int):=by omega
   have B:i64.wrap ((k:Int)+1)=((k+1:Nat):Int):=bO (by omega);have C:i64.wrap ((l.getD k c0).1+b)=(l.getD k c0).1+b:=wrap_i64 (by omega) (by omega);have D:i64.wrap ((l.getD k c0).2.1+b)=(l.getD k c0).2.1+b:=wrap_i64 (by omega) (by omega);simp only[fT,v,decide_true,if_true,p,A,and_self,Int.toNat_natCast,hk,q,u,j,e,f,C,D,B];rw[oo (d:=c0) hk];simp[dI]
  ·have v:¬((l.length:Int)<(l.length:Int)):=Int.lt_irrefl _;simp only[fT,v,decide_false,Bool.false_eq_true,if_false,List.take_length,List.drop_length,List.append_nil]
 unfold iD;rw[C4 h.1,Option.bind_some];have:iter (fT b l) (l,(0:Int))=some (dI l b):=x;rw[this];rfl
theorem HN(d:Dt){n:Nat}(hn:n≤4096)(c:Wy):Nr (iE d n c).1:=⟨Nat.le_trans (yr d n c) hn,fun x e=>by
 obtain⟨a,b,f,j,p,q⟩:=xc d n c x e;omega⟩
theorem Kl{l:XK}{n:Nat}(hl:l.length≤4096)(h:∀x∈l,Rg n x)(hn:n≤4096){f:Nat}(j:f≤4096):Nr (dI l (f:Int)):=⟨by rw[nh];exact hl,fun x c=>by
 unfold dI at c;obtain⟨y,e,rfl⟩:=List.mem_map.1 c;obtain⟨a,b,p,q,u,v⟩:=h y e;simp only;omega⟩
def qD(d:Dt):Nat→QK
 | 0=>[]
 | n+1=>qD d n++[(d n).1*16+(d n).2.1,(d n).2.2]
def Fp(d:Dt)(n:Nat):QX:=bytesOf (qD d n)
def Sm(d:Dt)(n:Nat):Prop:=∀j,j<n→0≤(d j).1∧(d j).1≤2∧0≤(d j).2.1∧(d j).2.1≤2∧0≤(d j).2.2∧(d j).2.2≤3
theorem nA(d:Dt):∀n,(qD d n).length=2*n
 | 0=>rfl
 | n+1=>by simp[qD,nA d n];omega
theorem Au{d:Dt}:∀ {n:Nat},Sm d n→∀x∈qD d n,0≤x∧x≤255
 | 0,_,x,c=>by cases c
 | n+1,h,x,c=>by
  obtain⟨e,f,p,q,u,v⟩:=h n (by omega);simp only[qD,List.mem_append,List.mem_cons,List.not_mem_nil,or_false]at c;rcases c with c | rfl | rfl
  ·exact Au (fun j z=>h j (by omega)) x c
  ·omega
  ·omega
theorem uQ:∀ {l k:QK},(∀x∈l,0≤x∧x≤255)→(∀x∈k,0≤x∧x≤255)→bytesOf l=bytesOf k→l=k
 | [],[],_,_,_=>rfl
 | [],y::k,_,_,h=>by simp[bytesOf]at h
 | x::l,[],_,_,h=>by simp[bytesOf]at h
 | x::l,y::k,c,f,h=>by
  simp only[bytesOf,List.map_cons,List.cons.injEq]at h;have j:=c x (by simp);have p:=f y (by simp);have e:x=y:=by have:=congrArg UInt8.toNat h.1;simp only[UInt8.toNat_ofNat']at this;omega
  rw[e,uQ (fun z hz=>c z (by simp[hz])) (fun z hz=>f z (by simp[hz])) h.2]
theorem Du{d c:Dt}:∀ {n:Nat},Sm d n→Sm c n→qD d n=qD c n→∀j,j<n→d j=c j
 | 0,_,_,_,j,f=>by omega
 | n+1,p,q,h,j,f=>by
  simp only[qD]at h;obtain⟨u,g2⟩:=List.append_inj h (by rw[nA,nA]);by_cases e:j=n
  ·subst e;obtain⟨v,x,z,A,B,C⟩:=p j (by omega);obtain⟨D,E,I,J,L,M⟩:=q j (by omega);simp only[List.cons.injEq,and_true]at g2;refine Prod.ext (by omega) (Prod.ext (by omega) g2.2)
  ·exact Du (fun j f=>p j (by omega)) (fun j f=>q j (by omega)) u j (by omega)
theorem I9{d e:Dt}{n c:Nat}(f:Sm d n)(p:Sm e c)(h:Fp d n=Fp e c):n=c∧∀j,j<n→d j=e j:=by
 have h':=uQ (Au f) (Au p) h;have hl:=congrArg List.length h';rw[nA,nA]at hl;obtain rfl:n=c:=by omega
 exact⟨rfl,Du f p h'⟩
theorem Nt{a b:Int}(c:0≤a)(e:a≤2)(f:0≤b)(j:b≤2):bitsOf .or .u8 (u8.wrap ((u8.wrap a)*2 ^ (min (4:Int).toNat u8.bits))) b=a*16+b:=by
 rcases(show a=0∨a=1∨a=2 by omega)with rfl | rfl | rfl <;> rcases(show b=0∨b=1∨b=2 by omega)with rfl | rfl | rfl <;> decide
theorem Mi{cl:XK}{o:QK}(j:cl.length≤4096)(M:o.length=cl.length+1){fr n:Nat}(hn:fr+n≤cl.length)(p:Sm (aR cl o fr) n):pf cl o (fr:Int) ((fr+n:Nat):Int)=some (Fp (aR cl o fr) n):=by
 have q:iter (iG cl o ((fr+n:Nat):Int)) (qD (aR cl o fr) 0,((fr+0:Nat):Int))=some (qD (aR cl o fr) n):=by
  refine iA (fun k=>(qD (aR cl o fr) k,((fr+k:Nat):Int))) n (fun k hk=>?_) ?_
  ·obtain⟨u,v,z,A,N,O⟩:=p k hk;have c:((fr+k:Nat):Int)<((fr+n:Nat):Int):=by omega
   have B:0≤((fr+k:Nat):Int)∧((fr+k:Nat):Int)<(cl.length:Int):=by omega
   have C:i64.wrap (((fr+k:Nat):Int)+1)=((fr+k+1:Nat):Int):=bO (by omega);have D:0≤((fr+k+1:Nat):Int)∧((fr+k+1:Nat):Int)<(o.length:Int):=by omega
   have E:0≤(4:Int):=by omega
   have e:bitsOf .or .u8 (u8.wrap ((u8.wrap (cl.getD (fr+k) c0).2.2.1)*2 ^ (min (4:Int).toNat u8.bits))) (cl.getD (fr+k) c0).2.2.2=(aR cl o fr k).1*16+(aR cl o fr k).2.1:=Nt u v z A;have f:o.getD (fr+k+1) 0=(aR cl o fr k).2.2:=rfl;have I:=nA (aR cl o fr) k;have g:∀x y:Int,((qD (aR cl o fr) k).length+([x,y]:QK).length)*1≤140737488355328∧(qD (aR cl o fr) k).length+([x,y]:QK).length≤9223372036854775807:=fun x y=>by simp;omega
   simp only[iG,c,B,C,D,E,and_self,decide_true,if_true,Int.toNat_natCast,e,f,g,qD];rfl
  ·have c:¬(((fr+n:Nat):Int)<((fr+n:Nat):Int)):=Int.lt_irrefl _;simp only[iG,c,decide_false,Bool.false_eq_true,if_false]
 have J:i64.wrap (((fr+n:Nat):Int) - (fr:Int))=(n:Int):=by rw[wrap_i64 (by omega) (by omega)];omega
 have L:i64.wrap (2*(n:Int))=2*(n:Int):=wrap_i64 (by omega) (by omega);unfold pf;rw[J,L,if_pos (by omega)];have:iter (iG cl o ((fr+n:Nat):Int)) (List.replicate (0:Int).toNat (0:Int),(fr:Int))=some (qD (aR cl o fr) n):=q;rw[this];rfl
def tx(e:XK)(c:Int)(l:XK):QZ:=l.map fun x=>po e c x.1.toNat (x.2.1.toNat - x.1.toNat)
def BW(l:XK):XK:=if l=[]then[c0]else l
theorem HR{e:XK}(A:EP e)(o:QK){c:Int}(C:1≤c)(D:c≤64){l:XK}(hl:l.length≤4096)(E:∀x∈l,Rg e.length x):lD e o l c=some (some ((e,o),(BW l,tx e c (BW l)))):=by
 have I:=A.1;have key:∀m:XK,m.length≤4096→(∀x∈m,∃a b:Nat,x.1=(a:Int)∧x.2.1=(b:Int)∧a≤b∧b≤e.length)→iter (fR e o c m) (([]:QZ),(0:Int))=some (tx e c m):=fun m M q=>by
  have:iter (fR e o c m) (tx e c (m.take 0),((0:Nat):Int))=some (tx e c m):=by
   refine iA (fun k=>(tx e c (m.take k),(k:Int))) m.length (fun k hk=>?_) ?_
   ·obtain⟨a,b,j,p,B,u⟩:=q (m.getD k c0) (uk hk);have v:(k:Int)<(m.length:Int):=by omega
    have J:0≤(k:Int):=by omega
    have z:=xi A o C D B u;have f:(tx e c (m.take k)).length=k:=by unfold tx;rw[List.length_map,List.length_take];omega
    have g:∀x:QK,(k+([x]:QZ).length)*24≤140737488355328∧k+([x]:QZ).length≤9223372036854775807:=fun x=>by simp;omega
    simp only[fR,v,J,and_self,decide_true,if_true,Int.toNat_natCast,j,p,z,Option.bind_some,f,g,bO (show k≤9000000000000000000 by omega)];rw[oo (d:=c0) hk];unfold tx;rw[List.map_append,List.map_cons,List.map_nil,j,p,Int.toNat_natCast,Int.toNat_natCast]
   ·have v:¬((m.length:Int)<(m.length:Int)):=Int.lt_irrefl _;simp only[fR,v,decide_false,Bool.false_eq_true,if_false,List.take_length]
  exact this
 unfold lD BW;cases l with
 | nil =>
  rw[if_pos (by simp),Option.bind_some,key [c0] (by simp) (fun x q=>by
   obtain rfl:x=c0:=by simpa using q
   exact⟨0,0,rfl,rfl,Nat.le_refl _,Nat.zero_le _⟩)]
  rfl
 | cons x r =>
  rw[if_neg (by simp;omega),Option.bind_some,key (x::r) hl (fun y L=>by
   obtain⟨a,b,j,p,B,u⟩:=E y L;exact⟨a,b,j,p,by omega,u⟩),if_neg (by simp)]
  rfl
end
end Go.Proofs.YtmcemnfjddoejaaGreatDoor.T
