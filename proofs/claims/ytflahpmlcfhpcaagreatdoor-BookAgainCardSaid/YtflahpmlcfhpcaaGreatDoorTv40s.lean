import Derived.Test.YtflahpmlcfhpcaaGreatDoorTvFbm
namespace Go.Proofs.YtflahpmlcfhpcaaGreatDoor.T
open Go Go.Tv Go.Proofs
open Go.IntKind (i64)
noncomputable section
theorem EG{o:QK}{fr:Nat}(u:fr<o.length)(cl:XZ){x:Int}(j:(o.getD fr 0 == 3)=(x == 3))(c:Wy)(e n g:Int)(last:Bool):fJ cl o (fr:Int) e n g last c.1 c.2.1 c.2.2.1 c.2.2.2.1 c.2.2.2.2.1 c.2.2.2.2.2=some (qh c x e n g last):=by
 obtain⟨v,b,p⟩:=Gu (o:=[x]) (fr:=0) (by simp) [] e n g last c.1 c.2.1 c.2.2.1 c.2.2.2.1 c.2.2.2.2.1 c.2.2.2.2.2;have f:fJ [] [x] 0 e n g last c.1 c.2.1 c.2.2.1 c.2.2.2.1 c.2.2.2.2.1 c.2.2.2.2.2=some (v,b):=p;unfold qh;rw[f,Option.getD_some,←f];have q:(0≤(fr:Int)∧(fr:Int)<(o.length:Int))=True:=eq_true (by omega);have g2:(0≤(0:Int)∧(0:Int)<(([x]:QK).length:Int))=True:=eq_true (by simp);have g3:([x]:QK).getD (0:Int).toNat 0=x:=rfl;unfold fJ;simp only[q,g2,g3,if_true,Int.toNat_natCast,j]
theorem py(fr:Nat)(b:Int):ue fr b<0↔b<0:=by unfold ue;split <;> omega
theorem DR(fr k:Nat):ue fr ((k:Nat):Int)=((fr+k:Nat):Int):=by unfold ue;rw[if_neg (by omega)];omega
theorem zD{cl:XZ}(hc:C5 cl){o:QK}(ho:o.length=cl.length+1){fr n:Nat}(hn:fr+n≤cl.length)(c:Wy)(t0:1≤c.2.1)(t1:c.2.1≤64){a:Nat}(hp:(o.getD (fr+a) 0 == 3)=(vD (aR cl o fr) a == 3)){all:Qq}(a1:all.length=n+1){F:Nat→Int×Int}
  (hF:∀k,a<k→k≤n→(all.getD k (0,0)).1=(F k).1∧(k<n→(all.getD k (0,0)).2=ue fr (F k).2)):∀m k e j full sp z,k+m=n→a≤k →
  iter (eZ cl o ((fr+a:Nat):Int) (fr:Int) ((fr+n:Nat):Int) all c.1 c.2.1 c.2.2.1 c.2.2.2.1 c.2.2.2.2.1 c.2.2.2.2.2) (e,ue fr j,gX (aR cl o fr) c.2.1 a (k - a),full,sp,z,((fr+k+1:Nat):Int)) =
   some ((gR (aR cl o fr) n c F a m k e j full sp z).1,ue fr (gR (aR cl o fr) n c F a m k e j full sp z).2)
 | 0,k,e,j,full,sp,z,hk,ha=>by
  have E:¬(((fr+k+1:Nat):Int)≤((fr+n:Nat):Int)):=by omega
  exact dN (by simp only[eZ,E,decide_false,Bool.false_eq_true,if_false,gR])
 | m+1,k,e,j,full,sp,z,hk,ha=>by
  have hl:=hc.1;have J:=uD cl o fr c.2.1 a;obtain⟨b0,b1⟩:=rI hc t0 t1 (fr+a) (k - a) (by omega);obtain⟨L,-,-⟩:=uv (c:=cl.getD (fr+k) c0) b0 (by omega) t0 t1 (hc.2 _).1 (hc.2 _).2;have a2:tR (cl.getD (fr+k) c0) (qg cl c.2.1 (fr+a) (k - a)) c.2.1=gX (aR cl o fr) c.2.1 a (k+1 - a):=by rw[←J,show k+1 - a=(k - a)+1 by omega];simp only[qg];rw[show fr+a+(k - a)=fr+k by omega]
  rw[a2,J]at L;obtain⟨Y,-,-⟩:=qW (cl:=cl) o (show fr+k≤fr+k+1 by omega) (by omega) (by omega);have Z:=DC cl (o:=o) (i:=fr+k+1) (by omega);rw[DL cl o fr k]at Z;have E:((fr+k+1:Nat):Int)≤((fr+n:Nat):Int):=by omega
  have q2:i64.wrap (((fr+k+1:Nat):Int) - 1)=((fr+k:Nat):Int):=ll (by omega);have q3:0≤((fr+k:Nat):Int):=by omega
  have q4:((fr+k:Nat):Int)<(cl.length:Int):=by omega
  have q5:i64.wrap (((fr+k+1:Nat):Int)+1)=((fr+(k+1)+1:Nat):Int):=bE (by omega);have q6:i64.wrap (((fr+k+1:Nat):Int) - (fr:Int))=((k+1:Nat):Int):=by rw[wrap_i64 (by omega) (by omega)];omega
  have q7:0≤((k+1:Nat):Int)∧((k+1:Nat):Int)<(all.length:Int):=by omega
  have ht:(((dV cl (fr+k) (fr+k+1):Nat):Int) == ((fr+k+1:Nat):Int)) = !(j6 (aR cl o fr k)):=by
   have hh:qu (cl.getD (fr+k) c0)=j6 (aR cl o fr k):=rfl;have:=(qW (cl:=cl) o (show fr+k≤fr+k by omega) (by omega) (by omega)).2.2;simp only[dV];rw[hh];cases he:j6 (aR cl o fr k)with
   | true =>
    rw[if_pos ⟨by omega,rfl⟩,Bool.not_true,beq_eq_false_iff_ne];omega
   | false =>rw[if_neg (fun x=>by cases x.2)];simp
  have M:(if((cl.getD (fr+k) c0).2.2.2 == 1)=true then some (i64.wrap (sp+1))else some sp)=some (if(aR cl o fr k).2.1=1 then i64.wrap (sp+1)else sp):=by
   show(if((aR cl o fr k).2.1 == 1)=true then some (i64.wrap (sp+1))else some sp)=_;by_cases h:(aR cl o fr k).2.1=1
   ·rw[if_pos h,if_pos (by simpa using h)]
   ·rw[if_neg h,if_neg (by simpa using h)]
  have N:gR (aR cl o fr) n c F a (m+1) k e j full sp z=(
    let s:=if(aR cl o fr k).2.1=1 then i64.wrap (sp+1)else sp
    let f:=if j6 (aR cl o fr k)=true then(full,z)else(gX (aR cl o fr) c.2.1 a (k+1 - a),s)
    if f.1 > c.1 then(e,j)
    else if(aR cl o fr k).2.2=0∨(k+1<n∧(F (k+1)).2<0)then gR (aR cl o fr) n c F a m (k+1) e j f.1 s f.2
    else
     let p:=qh c (vD (aR cl o fr) a) (aR cl o fr k).2.2 (if(aR cl o fr k).2.2=3 then i64.wrap (f.1+1)else f.1) f.2 (k+1 == n)
     if p.2=true∧(j<0∨i64.wrap (p.1+(F (k+1)).1)<e)then gR (aR cl o fr) n c F a m (k+1) (i64.wrap (p.1+(F (k+1)).1)) ((k+1:Nat):Int) f.1 s f.2
     else gR (aR cl o fr) n c F a m (k+1) e j f.1 s f.2):=rfl
  rw[N];clear N;simp only;generalize (if(aR cl o fr k).2.1=1 then i64.wrap (sp+1)else sp)=s at M;have q:(if(((dV cl (fr+k) (fr+k+1):Nat):Int) == ((fr+k+1:Nat):Int))=true then some (gX (aR cl o fr) c.2.1 a (k+1 - a),s)else some (full,z))=some (if j6 (aR cl o fr k)=true then(full,z)else(gX (aR cl o fr) c.2.1 a (k+1 - a),s)):=by rw[ht];cases j6 (aR cl o fr k) <;> rfl
  generalize (if j6 (aR cl o fr k)=true then(full,z)else(gX (aR cl o fr) c.2.1 a (k+1 - a),s))=f at q;obtain⟨A,f2⟩:=f;obtain⟨r1,r2⟩:=hF (k+1) (by omega) (by omega);simp only;have ih:=zD hc ho hn c t0 t1 hp a1 hF m (k+1);by_cases I:A > c.1
  ·rw[if_pos I];refine dN ?_;simp only[eZ,E,q2,q3,q4,L,Y,and_self,decide_true,if_true,Option.bind_some,Int.toNat_natCast];rw[M,Option.bind_some,q];simp only[Option.bind_some,I,decide_true,if_true]
  ·rw[if_neg I];have C:(if(!((aR cl o fr k).2.2 != 0))=true then some true else(if decide (((fr+k+1:Nat):Int)<((fr+n:Nat):Int))=true then some (decide ((all.getD (k+1) (0,0)).2<0))else some false))=some (decide ((aR cl o fr k).2.2=0∨(k+1<n∧(F (k+1)).2<0))):=by
    by_cases O:(aR cl o fr k).2.2=0
    ·rw[if_pos (by simp[O]),decide_eq_true (.inl O)]
    ·rw[if_neg (by simp[O])];by_cases g2:k+1<n
     ·rw[if_pos (by rw[decide_eq_true_eq];omega),r2 g2];have:(ue fr (F (k+1)).2<0)=((aR cl o fr k).2.2=0∨k+1<n∧(F (k+1)).2<0):=propext ⟨fun h=> .inr ⟨g2,(py _ _).1 h⟩,fun h=>(py _ _).2 (h.elim (fun x=>absurd x O) (fun x=>x.2))⟩;simp only[this]
     ·rw[if_neg (by rw[decide_eq_true_eq];omega),decide_eq_false (fun h=>h.elim O (fun x=>g2 x.1))]
   by_cases u:(aR cl o fr k).2.2=0∨(k+1<n∧(F (k+1)).2<0)
   ·rw[if_pos u,←ih _ _ _ _ _ (by omega) (by omega)];refine fR ?_;simp only[eZ,E,q2,q3,q4,L,Y,and_self,decide_true,if_true,Option.bind_some,Int.toNat_natCast];rw[M,Option.bind_some,q];simp only[Option.bind_some,I,decide_false,Bool.false_eq_true,if_false,Z,q6,q7,and_self,if_true,Int.toNat_natCast];rw[C,decide_eq_true u];simp only[Option.bind_some,if_true,q5]
   ·rw[if_neg u];have V:(if((aR cl o fr k).2.2 == 3)=true then some (i64.wrap (A+1))else some A)=some (if(aR cl o fr k).2.2=3 then i64.wrap (A+1)else A):=by
     by_cases g:(aR cl o fr k).2.2=3
     ·rw[if_pos g,if_pos (by simpa using g)]
     ·rw[if_neg g,if_neg (by simpa using g)]
    have D:=EG (o:=o) (fr:=fr+a) (by omega) cl hp c (aR cl o fr k).2.2 (if(aR cl o fr k).2.2=3 then i64.wrap (A+1)else A) f2 (k+1 == n);have v:(((fr+k+1:Nat):Int) == ((fr+n:Nat):Int))=(k+1 == n):=by
     by_cases g:k+1=n
     ·rw[beq_iff_eq.2 g,beq_iff_eq];omega
     ·rw[beq_eq_false_iff_ne.2 g,beq_eq_false_iff_ne];omega
    generalize qh c (vD (aR cl o fr) a) (aR cl o fr k).2.2 (if(aR cl o fr k).2.2=3 then i64.wrap (A+1)else A) f2 (k+1 == n)=p at D;obtain⟨p1,p2⟩:=p;simp only;have X:(if p2=true then(if decide (ue fr j<0)=true then some true else some (decide (i64.wrap (p1+(F (k+1)).1)<e)))else some false)=some (decide (p2=true∧(j<0∨i64.wrap (p1+(F (k+1)).1)<e))):=by
     cases p2 with
     | false=>simp
     | true =>
      by_cases g:j<0
      ·have:ue fr j<0:=(py _ _).2 g;simp[this,g]
      ·have:¬ue fr j<0:=fun h=>g ((py _ _).1 h)
       simp[this,g]
    by_cases B:p2=true∧(j<0∨i64.wrap (p1+(F (k+1)).1)<e)
    ·rw[if_pos B,←ih _ _ _ _ _ (by omega) (by omega),DR];refine fR ?_;simp only[eZ,E,q2,q3,q4,L,Y,and_self,decide_true,if_true,Option.bind_some,Int.toNat_natCast];rw[M,Option.bind_some,q];simp only[Option.bind_some,I,decide_false,Bool.false_eq_true,if_false,Z,q6,q7,and_self,if_true,Int.toNat_natCast];rw[C,decide_eq_false u,Option.bind_some,if_neg (by decide),V,Option.bind_some,v,D,Option.bind_some];simp only[r1];rw[X,decide_eq_true B];simp only[Option.bind_some,if_true,q5];rfl
    ·rw[if_neg B,←ih _ _ _ _ _ (by omega) (by omega)];refine fR ?_;simp only[eZ,E,q2,q3,q4,L,Y,and_self,decide_true,if_true,Option.bind_some,Int.toNat_natCast];rw[M,Option.bind_some,q];simp only[Option.bind_some,I,decide_false,Bool.false_eq_true,if_false,Z,q6,q7,and_self,if_true,Int.toNat_natCast];rw[C,decide_eq_false u,Option.bind_some,if_neg (by decide),V,Option.bind_some,v,D,Option.bind_some];simp only[r1];rw[X,decide_eq_false B];simp only[Option.bind_some,Bool.false_eq_true,if_false,q5]
def Ii(d:Dt)(n:Nat)(c:Wy)(e j:Nat)(t:Qq):Prop :=
 t.length=n+1∧∀i,i≤j→(t.getD (n - j+i) (0,0)).1=((eH d n c j).getD i (0,0)).1∧(i<j→(t.getD (n - j+i) (0,0)).2=ue e ((eH d n c j).getD i (0,0)).2)
theorem Ad{α:Type}{l:List α}{i k:Nat}{x d:α}(hi:i<l.length):(l.set i x).getD k d=if k=i then x else l.getD k d:=by
 simp only[List.getD_eq_getElem?_getD,List.getElem?_set];by_cases h:i=k
 ·subst h;simp[hi]
 ·rw[if_neg h,if_neg (Ne.symm h)]
theorem set_set{α:Type}(l:List α)(i:Nat)(x y:α):(l.set i x).set i y=l.set i y:=by simp
theorem Eu{f:XZ}(hc:C5 f){o:QK}(Z:o.length=f.length+1){e n:Nat}(hn:e+n≤f.length)(c:Wy)(t0:1≤c.2.1)(t1:c.2.1≤64)(h3:o.getD e 0≠3)(n0:0<n):
  ∃t,iter (fT f o (e:Int) ((e+n:Nat):Int) c.1 c.2.1 c.2.2.1 c.2.2.2.1 c.2.2.2.2.1 c.2.2.2.2.2) (List.replicate (n+1) (0,0),((e+n - 1:Nat):Int))=some t∧Ii (aR f o e) n c e n t:=by
 have hl:=hc.1;refine cW (fun z:Qq×Int=>∃j:Nat,j≤n∧z.2=(e:Int)+(n:Int) - 1 - (j:Int)∧Ii (aR f o e) n c e j z.1) (fun z=>(z.2+1 - (e:Int)).toNat) _ ?_
  ⟨0,by omega,by simp only;omega,by simp,fun i hi=>⟨?_,fun h=>by omega⟩⟩
 ·rintro⟨t,v⟩ ⟨j,hj,hv,q,u⟩;simp only at hv;by_cases a1:j<n
  ·left
   obtain⟨a,ha⟩:∃a,n=a+j+1:=⟨n - j - 1,by omega⟩;obtain rfl:v=((e+a:Nat):Int):=by omega
   simp only at q u;have J:((e+a:Nat):Int)≥(e:Int):=by omega
   have V:i64.wrap (((e+a:Nat):Int) - (e:Int))=(a:Int):=by rw[wrap_i64 (by omega) (by omega)];omega
   have L:0≤(a:Int)∧(a:Int)<(t.length:Int):=by omega
   have B:a<t.length:=by omega
   have X:i64.wrap (((e+a:Nat):Int) - 1)=(e:Int)+(n:Int) - 1 - ((j+1:Nat):Int):=by rw[wrap_i64 (by omega) (by omega)];omega
   have C:(if(((e+a:Nat):Int) == (e:Int))=true then some true else(if 0≤((e+a:Nat):Int)∧((e+a:Nat):Int)<(o.length:Int)then some (o.getD (e+a) 0 != 0)else none))=some (decide (a=0∨vD (aR f o e) a≠0)):=by
    by_cases g:a=0
    ·subst g;simp
    ·have g1:(((e+a:Nat):Int) == (e:Int))=false:=by rw[beq_eq_false_iff_ne];omega
     rw[g1,if_neg (by decide),if_pos (by omega),mQ f o e (by omega)];by_cases g2:vD (aR f o e) a=0 <;> simp[g,g2]
   have D:uo (aR f o e) n c (n - (j+1)) (eH (aR f o e) n c j)=uo (aR f o e) n c a (eH (aR f o e) n c j):=by rw[show n - (j+1)=a by omega]
   have A:∀x:Int×Int,(x.1=(uo (aR f o e) n c a (eH (aR f o e) n c j)).1∧x.2=ue e (uo (aR f o e) n c a (eH (aR f o e) n c j)).2)→Ii (aR f o e) n c e (j+1) (t.set a x):=fun x Y=>by
    refine⟨by rw[List.length_set];exact q,fun i hi=>?_⟩;rw[show n - (j+1)+i=a+i by omega,Ad B];cases i with
    | zero =>
     rw[if_pos (by omega)];simp only[eH,List.getD_cons_zero,D];exact⟨Y.1,fun _=>Y.2⟩
    | succ i =>rw[if_neg (by omega)];obtain⟨E,I⟩:=u i (by omega);rw[show n - j+i=a+(i+1) by omega]at E I;simp only[eH,List.getD_cons_succ];exact⟨E,fun h=>I (by omega)⟩
   by_cases hb:a=0∨vD (aR f o e) a≠0
   ·have hp:(o.getD (e+a) 0 == 3)=(vD (aR f o e) a == 3):=by
     by_cases g:a=0
     ·subst g;rw[Nat.add_zero,beq_eq_false_iff_ne.2 h3];rfl
     ·rw[mQ f o e (by omega)]
    have p:=zD hc Z hn c t0 t1 hp (all:=t.set a (0,-1)) (F:=fun k=>(eH (aR f o e) n c j).getD (k - a - 1) (0,0)) (by rw[List.length_set];exact q) (fun k k1 k2=>by
     rw[Ad B,if_neg (by omega)];obtain⟨E,I⟩:=u (k - a - 1) (by omega);rw[show n - j+(k - a - 1)=k by omega]at E I;exact⟨E,fun h=>I (by omega)⟩) (n - a) a 0 (-1) 0 0 0 (by omega) (Nat.le_refl _)
    rw[Nat.sub_self]at p;simp only[gX]at p;have M:ue e (-1) = -1:=rfl;rw[M]at p;have N:uo (aR f o e) n c a (eH (aR f o e) n c j)=gR (aR f o e) n c (fun k=>(eH (aR f o e) n c j).getD (k - a - 1) (0,0)) a (n - a) a 0 (-1) 0 0 0:=by unfold uo;rw[if_pos hb]
    rw[←N]at p;generalize uo (aR f o e) n c a (eH (aR f o e) n c j)=r at p A;have O:mR f o ((e+a:Nat):Int) (e:Int) ((e+n:Nat):Int) (t.set a (0,-1)) c.1 c.2.1 c.2.2.1 c.2.2.2.1 c.2.2.2.2.1 c.2.2.2.2.2=some (r.1,ue e r.2):=by unfold mR;rw[show i64.wrap (((e+a:Nat):Int)+1)=((e+a+1:Nat):Int)from bE (by omega),p];rfl
    refine⟨(t.set a (r.1,ue e r.2),(e:Int)+(n:Int) - 1 - ((j+1:Nat):Int)),?_,⟨j+1,by omega,rfl,A _ ⟨rfl,rfl⟩⟩,by simp only;omega⟩;simp only[fT,J,V,L,B,and_self,decide_true,if_true,Int.toNat_natCast];rw[C,decide_eq_true hb];simp only[Option.bind_some,if_true,O,List.length_set,L,B,and_self,set_set,X]
   ·have N:uo (aR f o e) n c a (eH (aR f o e) n c j)=(0,-1):=by unfold uo;rw[if_neg hb]
    refine⟨(t.set a (0,-1),(e:Int)+(n:Int) - 1 - ((j+1:Nat):Int)),?_,⟨j+1,by omega,rfl,A _ (by rw[N];exact⟨rfl,rfl⟩)⟩,by simp only;omega⟩;simp only[fT,J,V,L,B,and_self,decide_true,if_true,Int.toNat_natCast];rw[C,decide_eq_false hb];simp only[Option.bind_some,Bool.false_eq_true,if_false,X]
  ·right
   obtain rfl:j=n:=by omega
   refine⟨t,?_,q,u⟩;have J:¬(v≥(e:Int)):=by omega
   simp only[fT,J,decide_false,Bool.false_eq_true,if_false]
 ·obtain rfl:i=0:=by omega
  simp[eH]
theorem xI{f:XZ}(hc:C5 f){o:QK}(C:o.length=f.length+1){e n:Nat}(hn:e+n≤f.length)(c:Wy)(z:1≤c.2.1)(A:c.2.1≤64){t:Qq}(ht:Ii (aR f o e) n c e n t):
  ∀m a out,a≤n→n≤a+m→out.length≤a→(a<n→0≤((eH (aR f o e) n c n).getD a (0,0)).2)→iter (fX f o (e:Int) ((e+n:Nat):Int) c.2.1 t) (out,((e+a:Nat):Int))=some (out++ka (lA (aR f o e) n c.2.1 (eH (aR f o e) n c n) m a) (e:Int))
 | 0,a,out,D,E,I,B=>by
  obtain rfl:a=n:=by omega
  have j:¬(((e+a:Nat):Int)<((e+a:Nat):Int)):=by omega
  exact dN (by simp only[fX,j,decide_false,Bool.false_eq_true,if_false,lA,ka,List.map_nil,List.append_nil])
 | m+1,a,out,D,E,I,B=>by
  have hl:=hc.1;obtain⟨u,p⟩:=ht;by_cases ha:a<n
  ·obtain⟨J,L,v⟩:=vJ (aR f o e) n c a ha (B ha);have hT:=(p a (by omega)).2 ha;rw[Nat.sub_self,Nat.zero_add]at hT;simp only[lA];rw[if_pos ha,show ∀(x:cR) l,ka (x::l) (e:Int)=ka [x] (e:Int)++ka l (e:Int)from fun _ _=>rfl,DD,←List.append_assoc];generalize ((eH (aR f o e) n c n).getD a (0,0)).2=b at J L v hT;obtain⟨q,rfl⟩:∃q:Nat,b=(q:Int):=⟨b.toNat,by omega⟩;rw[Int.toNat_natCast]at v ⊢;rw[←xI hc C hn c z A ⟨u,p⟩ m q _ (by omega) (by omega) (by simp;omega) (fun h=>v (by omega))];refine fR ?_;rw[DR]at hT;have j:((e+a:Nat):Int)<((e+n:Nat):Int):=by omega
   have M:i64.wrap (((e+a:Nat):Int) - (e:Int))=(a:Int):=by rw[wrap_i64 (by omega) (by omega)];omega
   have N:0≤(a:Int)∧(a:Int)<(t.length:Int):=by omega
   have O:a<t.length:=by omega
   have V:0≤((e+q:Nat):Int)∧((e+q:Nat):Int)<(o.length:Int):=by omega
   simp only[fX,j,M,N,O,hT,V,and_self,decide_true,if_true,Int.toNat_natCast];rw[sa hc o z A (by omega) (by omega),mz f o e c.2.1 (by omega),mQ f o e (by omega)];simp only[Option.bind_some,List.length_singleton];rw[if_pos (by omega)]
  ·obtain rfl:a=n:=by omega
   have j:¬(((e+a:Nat):Int)<((e+a:Nat):Int)):=by omega
   simp only[lA];rw[if_neg ha];exact dN (by simp only[fX,j,decide_false,Bool.false_eq_true,if_false,ka,List.map_nil,List.append_nil])
theorem yU{j:XZ}(hc:C5 j){o:QK}(q:o.length=j.length+1){f n:Nat}(hn:f+n≤j.length)(c:Wy)(u:1≤c.2.1)(v:c.2.1≤64)(A:o.getD f 0≠3):
  lE j o (f:Int) ((f+n:Nat):Int) c.1 c.2.1 c.2.2.1 c.2.2.2.1 c.2.2.2.2.1 c.2.2.2.2.2=some (match rA (aR j o f) n c with | some l=>(ka l (f:Int),true) | none=>([],false)):=by
 have hl:=hc.1;unfold lE rA;by_cases z:n=0
 ·subst z;rw[if_pos (by rw[decide_eq_true_eq];omega),if_pos rfl];rfl
 ·have B:i64.wrap (i64.wrap (((f+n:Nat):Int) - (f:Int))+1)=((n+1:Nat):Int):=by rw[wrap_i64 (x:=((f+n:Nat):Int) - (f:Int)) (by omega) (by omega),wrap_i64 (by omega) (by omega)];omega
  have C:i64.wrap (((f+n:Nat):Int) - 1)=((f+n - 1:Nat):Int):=by rw[wrap_i64 (by omega) (by omega)];omega
  obtain⟨t,D,ht⟩:=Eu hc q hn c u v A (by omega);have p:=(ht.2 0 (by omega)).2 (by omega);rw[Nat.sub_self]at p;rw[if_neg (by rw[decide_eq_true_eq];omega),if_neg z,B,C,if_pos (by omega),Int.toNat_natCast,D,Option.bind_some];have E:=ht.1;rw[if_pos (by omega),if_pos (by show 0<t.length;omega)];rw[show(0:Int).toNat=0 from rfl,p];by_cases e:((eH (aR j o f) n c n).getD 0 (0,0)).2<0
  ·rw[if_pos (by rw[decide_eq_true_eq];exact(py _ _).2 e),if_pos e]
  ·rw[if_neg (by rw[decide_eq_true_eq];exact fun h=>e ((py _ _).1 h)),if_neg e];have:=xI hc q hn c u v ht n 0 [] (by omega) (by omega) (by simp) (fun _=>by omega);rw[Nat.add_zero,List.nil_append]at this;rw[this];rfl
theorem HP{j:XZ}(hc:C5 j){o:QK}(q:o.length=j.length+1){f n:Nat}(hn:f+n≤j.length)(c:Wy)(u:1≤c.2.1)(v:c.2.1≤64)(x:o.getD f 0≠3):
  jr j o (f:Int) ((f+n:Nat):Int) c.1 c.2.1 c.2.2.1 c.2.2.2.1 c.2.2.2.2.1 c.2.2.2.2.2=some (ka (iK (aR j o f) n c).1 (f:Int),(iK (aR j o f) n c).2):=by
 unfold jr iK;rw[wR hc q hn c.1 u v,yU hc q hn c u v x];by_cases p:c.2.2.1=1
 ·have e:(c.2.2.1 == 1)=true:=by simpa using p
  rw[if_pos e,if_pos p];cases rA (aR j o f) n c <;> simp[e]
 ·have e:(c.2.2.1 == 1)=false:=by simpa using p
  rw[if_neg (by rw[e];decide),if_neg p];simp[e]
end
end Go.Proofs.YtflahpmlcfhpcaaGreatDoor.T
