/- Mode Best: the program's lines are those of the part alone. -/
import Derived.Test.YtmcemnfjddoejaaGreatDoorTvFbm
namespace Go.Proofs.YtmcemnfjddoejaaGreatDoor.T
open Go Go.Tv Go.Proofs
open Go.IntKind (i64)
noncomputable section
theorem FA{o:List Int}{fr:Nat}(p:fr<o.length)(cl:List bB){x:Int}(j:(o.getD fr 0 == 3)=(x == 3))(c:Wy)(e n g:Int)(last:Bool):eT cl o (fr:Int) e n g last c.1 c.2.1 c.2.2.1 c.2.2.2.1 c.2.2.2.2.1 c.2.2.2.2.2=some (qN c x e n g last):=by
 obtain⟨v,b,k⟩:=G6 (o:=[x]) (fr:=0) (by simp) [] e n g last c.1 c.2.1 c.2.2.1 c.2.2.2.1 c.2.2.2.2.1 c.2.2.2.2.2;have f:eT [] [x] 0 e n g last c.1 c.2.1 c.2.2.1 c.2.2.2.1 c.2.2.2.2.1 c.2.2.2.2.2=some (v,b):=k;unfold qN;rw[f,Option.getD_some,←f];have m:(0≤(fr:Int)∧(fr:Int)<(o.length:Int))=True:=eq_true (by omega);have g2:(0≤(0:Int)∧(0:Int)<(([x]:List Int).length:Int))=True:=eq_true (by simp);have g3:([x]:List Int).getD (0:Int).toNat 0=x:=rfl;unfold eT;simp only[m,g2,g3,if_true,Int.toNat_natCast,j]
theorem pT(fr:Nat)(b:Int):vo fr b<0↔b<0:=by unfold vo;split <;> omega
theorem Eo(fr k:Nat):vo fr ((k:Nat):Int)=((fr+k:Nat):Int):=by unfold vo;rw[if_neg (by omega)];omega
theorem Ba{cl:List bB}(J:DS cl){o:List Int}(ho:o.length=cl.length+1){fr n:Nat}(hn:fr+n≤cl.length)(c:Wy)(t0:1≤c.2.1)(t1:c.2.1≤64){a:Nat}(hp:(o.getD (fr+a) 0 == 3)=(yc (aN cl o fr) a == 3)){all:List (Int×Int)}(a1:all.length=n+1){F:Nat→Int×Int}
  (hF:∀k,a<k→k≤n→(all.getD k (0,0)).1=(F k).1∧(k<n→(all.getD k (0,0)).2=vo fr (F k).2)):∀m k e j full sp z,k+m=n→a≤k →
  iter (dY cl o ((fr+a:Nat):Int) (fr:Int) ((fr+n:Nat):Int) all c.1 c.2.1 c.2.2.1 c.2.2.2.1 c.2.2.2.2.1 c.2.2.2.2.2) (e,vo fr j,ij (aN cl o fr) c.2.1 a (k - a),full,sp,z,((fr+k+1:Nat):Int)) =
   some ((gJ (aN cl o fr) n c F a m k e j full sp z).1,vo fr (gJ (aN cl o fr) n c F a m k e j full sp z).2)
 | 0,k,e,j,full,sp,z,hk,ha=>by
  have E:¬(((fr+k+1:Nat):Int)≤((fr+n:Nat):Int)):=by omega
  exact bM (by simp only[dY,E,decide_false,Bool.false_eq_true,if_false,gJ])
 | m+1,k,e,j,full,sp,z,hk,ha=>by
  have hl:=J.1;have L:=vu cl o fr c.2.1 a;obtain⟨b0,b1⟩:=sB J t0 t1 (fr+a) (k - a) (by omega);obtain⟨M,-,-⟩:=vw (c:=cl.getD (fr+k) c0) b0 (by omega) t0 t1 (J.2 _).1 (J.2 _).2;have a2:uP (cl.getD (fr+k) c0) (re cl c.2.1 (fr+a) (k - a)) c.2.1=ij (aN cl o fr) c.2.1 a (k+1 - a):=by rw[←L,show k+1 - a=(k - a)+1 by omega];simp only[re];rw[show fr+a+(k - a)=fr+k by omega]
  rw[a2,L]at M;obtain⟨Y,-,-⟩:=rA (cl:=cl) o (show fr+k≤fr+k+1 by omega) (by omega) (by omega);have Z:=Ex cl (o:=o) (i:=fr+k+1) (by omega);rw[EK cl o fr k]at Z;have E:((fr+k+1:Nat):Int)≤((fr+n:Nat):Int):=by omega
  have q2:i64.wrap (((fr+k+1:Nat):Int) - 1)=((fr+k:Nat):Int):=lC (by omega);have q3:0≤((fr+k:Nat):Int):=by omega
  have q4:((fr+k:Nat):Int)<(cl.length:Int):=by omega
  have q5:i64.wrap (((fr+k+1:Nat):Int)+1)=((fr+(k+1)+1:Nat):Int):=bj (by omega);have q6:i64.wrap (((fr+k+1:Nat):Int) - (fr:Int))=((k+1:Nat):Int):=by rw[wrap_i64 (by omega) (by omega)];omega
  have q7:0≤((k+1:Nat):Int)∧((k+1:Nat):Int)<(all.length:Int):=by omega
  have ht:(((dD cl (fr+k) (fr+k+1):Nat):Int) == ((fr+k+1:Nat):Int)) = !(j1 (aN cl o fr k)):=by
   have hh:ry (cl.getD (fr+k) c0)=j1 (aN cl o fr k):=rfl;have:=(rA (cl:=cl) o (show fr+k≤fr+k by omega) (by omega) (by omega)).2.2;simp only[dD];rw[hh];cases he:j1 (aN cl o fr k)with
   | true =>
    rw[if_pos ⟨by omega,rfl⟩,Bool.not_true,beq_eq_false_iff_ne];omega
   | false =>rw[if_neg (fun x=>by cases x.2)];simp
  have N:(if((cl.getD (fr+k) c0).2.2.2 == 1)=true then some (i64.wrap (sp+1))else some sp)=some (if(aN cl o fr k).2.1=1 then i64.wrap (sp+1)else sp):=by
   show(if((aN cl o fr k).2.1 == 1)=true then some (i64.wrap (sp+1))else some sp)=_;by_cases h:(aN cl o fr k).2.1=1
   ·rw[if_pos h,if_pos (by simpa using h)]
   ·rw[if_neg h,if_neg (by simpa using h)]
  have O:gJ (aN cl o fr) n c F a (m+1) k e j full sp z=(
    let s:=if(aN cl o fr k).2.1=1 then i64.wrap (sp+1)else sp
    let f:=if j1 (aN cl o fr k)=true then(full,z)else(ij (aN cl o fr) c.2.1 a (k+1 - a),s)
    if f.1 > c.1 then(e,j)
    else if(aN cl o fr k).2.2=0∨(k+1<n∧(F (k+1)).2<0)then gJ (aN cl o fr) n c F a m (k+1) e j f.1 s f.2
    else
     let p:=qN c (yc (aN cl o fr) a) (aN cl o fr k).2.2 (if(aN cl o fr k).2.2=3 then i64.wrap (f.1+1)else f.1) f.2 (k+1 == n)
     if p.2=true∧(j<0∨i64.wrap (p.1+(F (k+1)).1)<e)then gJ (aN cl o fr) n c F a m (k+1) (i64.wrap (p.1+(F (k+1)).1)) ((k+1:Nat):Int) f.1 s f.2
     else gJ (aN cl o fr) n c F a m (k+1) e j f.1 s f.2):=rfl
  rw[O];clear O;simp only;generalize (if(aN cl o fr k).2.1=1 then i64.wrap (sp+1)else sp)=s at N;have q:(if(((dD cl (fr+k) (fr+k+1):Nat):Int) == ((fr+k+1:Nat):Int))=true then some (ij (aN cl o fr) c.2.1 a (k+1 - a),s)else some (full,z))=some (if j1 (aN cl o fr k)=true then(full,z)else(ij (aN cl o fr) c.2.1 a (k+1 - a),s)):=by rw[ht];cases j1 (aN cl o fr k) <;> rfl
  generalize (if j1 (aN cl o fr k)=true then(full,z)else(ij (aN cl o fr) c.2.1 a (k+1 - a),s))=f at q;obtain⟨A,f2⟩:=f;obtain⟨r1,r2⟩:=hF (k+1) (by omega) (by omega);simp only;have ih:=Ba J ho hn c t0 t1 hp a1 hF m (k+1);by_cases I:A > c.1
  ·rw[if_pos I];refine bM ?_;simp only[dY,E,q2,q3,q4,M,Y,and_self,decide_true,if_true,Option.bind_some,Int.toNat_natCast];rw[N,Option.bind_some,q];simp only[Option.bind_some,I,decide_true,if_true]
  ·rw[if_neg I];have C:(if(!((aN cl o fr k).2.2 != 0))=true then some true else(if decide (((fr+k+1:Nat):Int)<((fr+n:Nat):Int))=true then some (decide ((all.getD (k+1) (0,0)).2<0))else some false))=some (decide ((aN cl o fr k).2.2=0∨(k+1<n∧(F (k+1)).2<0))):=by
    by_cases R:(aN cl o fr k).2.2=0
    ·rw[if_pos (by simp[R]),decide_eq_true (.inl R)]
    ·rw[if_neg (by simp[R])];by_cases g2:k+1<n
     ·rw[if_pos (by rw[decide_eq_true_eq];omega),r2 g2];have:(vo fr (F (k+1)).2<0)=((aN cl o fr k).2.2=0∨k+1<n∧(F (k+1)).2<0):=propext ⟨fun h=> .inr ⟨g2,(pT _ _).1 h⟩,fun h=>(pT _ _).2 (h.elim (fun x=>absurd x R) (fun x=>x.2))⟩;simp only[this]
     ·rw[if_neg (by rw[decide_eq_true_eq];omega),decide_eq_false (fun h=>h.elim R (fun x=>g2 x.1))]
   by_cases u:(aN cl o fr k).2.2=0∨(k+1<n∧(F (k+1)).2<0)
   ·rw[if_pos u,←ih _ _ _ _ _ (by omega) (by omega)];refine dE ?_;simp only[dY,E,q2,q3,q4,M,Y,and_self,decide_true,if_true,Option.bind_some,Int.toNat_natCast];rw[N,Option.bind_some,q];simp only[Option.bind_some,I,decide_false,Bool.false_eq_true,if_false,Z,q6,q7,and_self,if_true,Int.toNat_natCast];rw[C,decide_eq_true u];simp only[Option.bind_some,if_true,q5]
   ·rw[if_neg u];have V:(if((aN cl o fr k).2.2 == 3)=true then some (i64.wrap (A+1))else some A)=some (if(aN cl o fr k).2.2=3 then i64.wrap (A+1)else A):=by
     by_cases g:(aN cl o fr k).2.2=3
     ·rw[if_pos g,if_pos (by simpa using g)]
     ·rw[if_neg g,if_neg (by simpa using g)]
    have D:=FA (o:=o) (fr:=fr+a) (by omega) cl hp c (aN cl o fr k).2.2 (if(aN cl o fr k).2.2=3 then i64.wrap (A+1)else A) f2 (k+1 == n);have v:(((fr+k+1:Nat):Int) == ((fr+n:Nat):Int))=(k+1 == n):=by
     by_cases g:k+1=n
     ·rw[beq_iff_eq.2 g,beq_iff_eq];omega
     ·rw[beq_eq_false_iff_ne.2 g,beq_eq_false_iff_ne];omega
    generalize qN c (yc (aN cl o fr) a) (aN cl o fr k).2.2 (if(aN cl o fr k).2.2=3 then i64.wrap (A+1)else A) f2 (k+1 == n)=p at D;obtain⟨p1,p2⟩:=p;simp only;have X:(if p2=true then(if decide (vo fr j<0)=true then some true else some (decide (i64.wrap (p1+(F (k+1)).1)<e)))else some false)=some (decide (p2=true∧(j<0∨i64.wrap (p1+(F (k+1)).1)<e))):=by
     cases p2 with
     | false=>simp
     | true =>
      by_cases g:j<0
      ·have:vo fr j<0:=(pT _ _).2 g;simp[this,g]
      ·have:¬vo fr j<0:=fun h=>g ((pT _ _).1 h)
       simp[this,g]
    by_cases B:p2=true∧(j<0∨i64.wrap (p1+(F (k+1)).1)<e)
    ·rw[if_pos B,←ih _ _ _ _ _ (by omega) (by omega),Eo];refine dE ?_;simp only[dY,E,q2,q3,q4,M,Y,and_self,decide_true,if_true,Option.bind_some,Int.toNat_natCast];rw[N,Option.bind_some,q];simp only[Option.bind_some,I,decide_false,Bool.false_eq_true,if_false,Z,q6,q7,and_self,if_true,Int.toNat_natCast];rw[C,decide_eq_false u,Option.bind_some,if_neg (by decide),V,Option.bind_some,v,D,Option.bind_some];simp only[r1];rw[X,decide_eq_true B];simp only[Option.bind_some,if_true,q5];rfl
    ·rw[if_neg B,←ih _ _ _ _ _ (by omega) (by omega)];refine dE ?_;simp only[dY,E,q2,q3,q4,M,Y,and_self,decide_true,if_true,Option.bind_some,Int.toNat_natCast];rw[N,Option.bind_some,q];simp only[Option.bind_some,I,decide_false,Bool.false_eq_true,if_false,Z,q6,q7,and_self,if_true,Int.toNat_natCast];rw[C,decide_eq_false u,Option.bind_some,if_neg (by decide),V,Option.bind_some,v,D,Option.bind_some];simp only[r1];rw[X,decide_eq_false B];simp only[Option.bind_some,Bool.false_eq_true,if_false,q5]
def IY(d:Dt)(n:Nat)(c:Wy)(e j:Nat)(t:List (Int×Int)):Prop :=
 t.length=n+1∧∀i,i≤j→(t.getD (n - j+i) (0,0)).1=((dI d n c j).getD i (0,0)).1∧(i<j→(t.getD (n - j+i) (0,0)).2=vo e ((dI d n c j).getD i (0,0)).2)
theorem Bg{α:Type}{l:List α}{i k:Nat}{x d:α}(hi:i<l.length):(l.set i x).getD k d=if k=i then x else l.getD k d:=by
 simp only[List.getD_eq_getElem?_getD,List.getElem?_set];by_cases h:i=k
 ·subst h;simp[hi]
 ·rw[if_neg h,if_neg (Ne.symm h)]
theorem set_set{α:Type}(l:List α)(i:Nat)(x y:α):(l.set i x).set i y=l.set i y:=by simp
theorem Fc{cl:List bB}(N:DS cl){o:List Int}(X:o.length=cl.length+1){e n:Nat}(Y:e+n≤cl.length)(c:Wy)(Z:1≤c.2.1)(t1:c.2.1≤64)(h3:o.getD e 0≠3)(n0:0<n):
  ∃t,iter (fx cl o (e:Int) ((e+n:Nat):Int) c.1 c.2.1 c.2.2.1 c.2.2.2.1 c.2.2.2.2.1 c.2.2.2.2.2) (List.replicate (n+1) (0,0),((e+n - 1:Nat):Int))=some t∧IY (aN cl o e) n c e n t:=by
 have hl:=N.1;refine cF (fun z:List (Int×Int)×Int=>∃j:Nat,j≤n∧z.2=(e:Int)+(n:Int) - 1 - (j:Int)∧IY (aN cl o e) n c e j z.1) (fun z=>(z.2+1 - (e:Int)).toNat) _ ?_
  ⟨0,by omega,by simp only;omega,by simp,fun i hi=>⟨?_,fun h=>by omega⟩⟩
 ·rintro⟨t,v⟩ ⟨j,hj,hv,m,p⟩;simp only at hv;by_cases a1:j<n
  ·left
   obtain⟨a,ha⟩:∃a,n=a+j+1:=⟨n - j - 1,by omega⟩;obtain rfl:v=((e+a:Nat):Int):=by omega
   simp only at m p;have E:((e+a:Nat):Int)≥(e:Int):=by omega
   have O:i64.wrap (((e+a:Nat):Int) - (e:Int))=(a:Int):=by rw[wrap_i64 (by omega) (by omega)];omega
   have I:0≤(a:Int)∧(a:Int)<(t.length:Int):=by omega
   have u:a<t.length:=by omega
   have R:i64.wrap (((e+a:Nat):Int) - 1)=(e:Int)+(n:Int) - 1 - ((j+1:Nat):Int):=by rw[wrap_i64 (by omega) (by omega)];omega
   have A:(if(((e+a:Nat):Int) == (e:Int))=true then some true else(if 0≤((e+a:Nat):Int)∧((e+a:Nat):Int)<(o.length:Int)then some (o.getD (e+a) 0 != 0)else none))=some (decide (a=0∨yc (aN cl o e) a≠0)):=by
    by_cases g:a=0
    ·subst g;simp
    ·have g1:(((e+a:Nat):Int) == (e:Int))=false:=by rw[beq_eq_false_iff_ne];omega
     rw[g1,if_neg (by decide),if_pos (by omega),mR cl o e (by omega)];by_cases g2:yc (aN cl o e) a=0 <;> simp[g,g2]
   have B:vk (aN cl o e) n c (n - (j+1)) (dI (aN cl o e) n c j)=vk (aN cl o e) n c a (dI (aN cl o e) n c j):=by rw[show n - (j+1)=a by omega]
   have q:∀x:Int×Int,(x.1=(vk (aN cl o e) n c a (dI (aN cl o e) n c j)).1∧x.2=vo e (vk (aN cl o e) n c a (dI (aN cl o e) n c j)).2)→IY (aN cl o e) n c e (j+1) (t.set a x):=fun x V=>by
    refine⟨by rw[List.length_set];exact m,fun i hi=> ?_⟩;rw[show n - (j+1)+i=a+i by omega,Bg u];cases i with
    | zero =>
     rw[if_pos (by omega)];simp only[dI,List.getD_cons_zero,B];exact⟨V.1,fun _=>V.2⟩
    | succ i =>rw[if_neg (by omega)];obtain⟨C,D⟩:=p i (by omega);rw[show n - j+i=a+(i+1) by omega]at C D;simp only[dI,List.getD_cons_succ];exact⟨C,fun h=>D (by omega)⟩
   by_cases hb:a=0∨yc (aN cl o e) a≠0
   ·have hp:(o.getD (e+a) 0 == 3)=(yc (aN cl o e) a == 3):=by
     by_cases g:a=0
     ·subst g;rw[Nat.add_zero,beq_eq_false_iff_ne.2 h3];rfl
     ·rw[mR cl o e (by omega)]
    have f:=Ba N X Y c Z t1 hp (all:=t.set a (0,-1)) (F:=fun k=>(dI (aN cl o e) n c j).getD (k - a - 1) (0,0)) (by rw[List.length_set];exact m) (fun k k1 k2=>by
     rw[Bg u,if_neg (by omega)];obtain⟨C,D⟩:=p (k - a - 1) (by omega);rw[show n - j+(k - a - 1)=k by omega]at C D;exact⟨C,fun h=>D (by omega)⟩) (n - a) a 0 (-1) 0 0 0 (by omega) (Nat.le_refl _)
    rw[Nat.sub_self]at f;simp only[ij]at f;have J:vo e (-1) = -1:=rfl;rw[J]at f;have L:vk (aN cl o e) n c a (dI (aN cl o e) n c j)=gJ (aN cl o e) n c (fun k=>(dI (aN cl o e) n c j).getD (k - a - 1) (0,0)) a (n - a) a 0 (-1) 0 0 0:=by unfold vk;rw[if_pos hb]
    rw[←L]at f;generalize vk (aN cl o e) n c a (dI (aN cl o e) n c j)=r at f q;have M:mI cl o ((e+a:Nat):Int) (e:Int) ((e+n:Nat):Int) (t.set a (0,-1)) c.1 c.2.1 c.2.2.1 c.2.2.2.1 c.2.2.2.2.1 c.2.2.2.2.2=some (r.1,vo e r.2):=by unfold mI;rw[show i64.wrap (((e+a:Nat):Int)+1)=((e+a+1:Nat):Int)from bj (by omega),f];rfl
    refine⟨(t.set a (r.1,vo e r.2),(e:Int)+(n:Int) - 1 - ((j+1:Nat):Int)),?_,⟨j+1,by omega,rfl,q _ ⟨rfl,rfl⟩⟩,by simp only;omega⟩;simp only[fx,E,O,I,u,and_self,decide_true,if_true,Int.toNat_natCast];rw[A,decide_eq_true hb];simp only[Option.bind_some,if_true,M,List.length_set,I,u,and_self,set_set,R]
   ·have L:vk (aN cl o e) n c a (dI (aN cl o e) n c j)=(0,-1):=by unfold vk;rw[if_neg hb]
    refine⟨(t.set a (0,-1),(e:Int)+(n:Int) - 1 - ((j+1:Nat):Int)),?_,⟨j+1,by omega,rfl,q _ (by rw[L];exact⟨rfl,rfl⟩)⟩,by simp only;omega⟩;simp only[fx,E,O,I,u,and_self,decide_true,if_true,Int.toNat_natCast];rw[A,decide_eq_false hb];simp only[Option.bind_some,Bool.false_eq_true,if_false,R]
  ·right
   obtain rfl:j=n:=by omega
   refine⟨t,?_,m,p⟩;have E:¬(v≥(e:Int)):=by omega
   simp only[fx,E,decide_false,Bool.false_eq_true,if_false]
 ·obtain rfl:i=0:=by omega
  simp[dI]
theorem yT{cl:List bB}(p:DS cl){o:List Int}(B:o.length=cl.length+1){e n:Nat}(C:e+n≤cl.length)(c:Wy)(v:1≤c.2.1)(z:c.2.1≤64){t:List (Int×Int)}(D:IY (aN cl o e) n c e n t):
  ∀m a out,a≤n→n≤a+m→out.length≤a→(a<n→0≤((dI (aN cl o e) n c n).getD a (0,0)).2)→iter (fp cl o (e:Int) ((e+n:Nat):Int) c.2.1 t) (out,((e+a:Nat):Int))=some (out++cX (jc (aN cl o e) n c.2.1 (dI (aN cl o e) n c n) m a) (e:Int))
 | 0,a,out,E,I,J,A=>by
  obtain rfl:a=n:=by omega
  have f:¬(((e+a:Nat):Int)<((e+a:Nat):Int)):=by omega
  exact bM (by simp only[fp,f,decide_false,Bool.false_eq_true,if_false,jc,cX,List.map_nil,List.append_nil])
 | m+1,a,out,E,I,J,A=>by
  have hl:=p.1;obtain⟨q,j⟩:=D;by_cases ha:a<n
  ·obtain⟨L,M,u⟩:=sA (aN cl o e) n c a ha (A ha);have hT:=(j a (by omega)).2 ha;rw[Nat.sub_self,Nat.zero_add]at hT;simp only[jc];rw[if_pos ha,show ∀(x:bB) l,cX (x::l) (e:Int)=cX [x] (e:Int)++cX l (e:Int)from fun _ _=>rfl,Eb,←List.append_assoc];generalize ((dI (aN cl o e) n c n).getD a (0,0)).2=b at L M u hT;obtain⟨k,rfl⟩:∃k:Nat,b=(k:Int):=⟨b.toNat,by omega⟩;rw[Int.toNat_natCast]at u ⊢;rw[←yT p B C c v z ⟨q,j⟩ m k _ (by omega) (by omega) (by simp;omega) (fun h=>u (by omega))];refine dE ?_;rw[Eo]at hT;have f:((e+a:Nat):Int)<((e+n:Nat):Int):=by omega
   have N:i64.wrap (((e+a:Nat):Int) - (e:Int))=(a:Int):=by rw[wrap_i64 (by omega) (by omega)];omega
   have O:0≤(a:Int)∧(a:Int)<(t.length:Int):=by omega
   have R:a<t.length:=by omega
   have V:0≤((e+k:Nat):Int)∧((e+k:Nat):Int)<(o.length:Int):=by omega
   simp only[fp,f,N,O,R,hT,V,and_self,decide_true,if_true,Int.toNat_natCast];rw[rS p o v z (by omega) (by omega),mQ cl o e c.2.1 (by omega),mR cl o e (by omega)];simp only[Option.bind_some,List.length_singleton];rw[if_pos (by omega)]
  ·obtain rfl:a=n:=by omega
   have f:¬(((e+a:Nat):Int)<((e+a:Nat):Int)):=by omega
   simp only[jc];rw[if_neg ha];exact bM (by simp only[fp,f,decide_false,Bool.false_eq_true,if_false,cX,List.map_nil,List.append_nil])
theorem Ag{cl:List bB}(k:DS cl){o:List Int}(p:o.length=cl.length+1){f n:Nat}(q:f+n≤cl.length)(c:Wy)(u:1≤c.2.1)(v:c.2.1≤64)(A:o.getD f 0≠3):
  lE cl o (f:Int) ((f+n:Nat):Int) c.1 c.2.1 c.2.2.1 c.2.2.2.1 c.2.2.2.2.1 c.2.2.2.2.2=some (match ql (aN cl o f) n c with | some l=>(cX l (f:Int),true) | none=>([],false)):=by
 have hl:=k.1;unfold lE ql;by_cases z:n=0
 ·subst z;rw[if_pos (by rw[decide_eq_true_eq];omega),if_pos rfl];rfl
 ·have B:i64.wrap (i64.wrap (((f+n:Nat):Int) - (f:Int))+1)=((n+1:Nat):Int):=by rw[wrap_i64 (x:=((f+n:Nat):Int) - (f:Int)) (by omega) (by omega),wrap_i64 (by omega) (by omega)];omega
  have C:i64.wrap (((f+n:Nat):Int) - 1)=((f+n - 1:Nat):Int):=by rw[wrap_i64 (by omega) (by omega)];omega
  obtain⟨t,D,m⟩:=Fc k p q c u v A (by omega);have j:=(m.2 0 (by omega)).2 (by omega);rw[Nat.sub_self]at j;rw[if_neg (by rw[decide_eq_true_eq];omega),if_neg z,B,C,if_pos (by omega),Int.toNat_natCast,D,Option.bind_some];have E:=m.1;rw[if_pos (by omega),if_pos (by show 0<t.length;omega)];rw[show(0:Int).toNat=0 from rfl,j];by_cases e:((dI (aN cl o f) n c n).getD 0 (0,0)).2<0
  ·rw[if_pos (by rw[decide_eq_true_eq];exact(pT _ _).2 e),if_pos e]
  ·rw[if_neg (by rw[decide_eq_true_eq];exact fun h=>e ((pT _ _).1 h)),if_neg e];have:=yT k p q c u v m n 0 [] (by omega) (by omega) (by simp) (fun _=>by omega);rw[Nat.add_zero,List.nil_append]at this;rw[this];rfl
theorem I2{cl:List bB}(k:DS cl){o:List Int}(m:o.length=cl.length+1){f n:Nat}(p:f+n≤cl.length)(c:Wy)(q:1≤c.2.1)(u:c.2.1≤64)(v:o.getD f 0≠3):
  hY cl o (f:Int) ((f+n:Nat):Int) c.1 c.2.1 c.2.2.1 c.2.2.2.1 c.2.2.2.2.1 c.2.2.2.2.2=some (cX (gI (aN cl o f) n c).1 (f:Int),(gI (aN cl o f) n c).2):=by
 unfold hY gI;rw[ye k m p c.1 q u,Ag k m p c q u v];by_cases j:c.2.2.1=1
 ·have e:(c.2.2.1 == 1)=true:=by simpa using j
  rw[if_pos e,if_pos j];cases ql (aN cl o f) n c <;> simp[e]
 ·have e:(c.2.2.1 == 1)=false:=by simpa using j
  rw[if_neg (by rw[e];decide),if_neg j];simp[e]
end
end Go.Proofs.YtmcemnfjddoejaaGreatDoor.T
