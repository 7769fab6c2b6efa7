/- Mode Best: the program's lines are those of the part alone. -/
import Derived.Test.YtmcemnfjddoejaaGreatDoorTvFbm
namespace Go.Proofs.YtmcemnfjddoejaaGreatDoor.T
open Go Go.Tv Go.Proofs
open Go.IntKind (i64)
noncomputable section
theorem Fy{o:List Int}{fr:Nat}(p:fr<o.length)(cl:List bB){x:Int}(j:(o.getD fr 0 == 3)=(x == 3))(c:Wy)(e n g:Int)(last:Bool):fc cl o (fr:Int) e n g last c.1 c.2.1 c.2.2.1 c.2.2.2.1 c.2.2.2.2.1 c.2.2.2.2.2=some (rq c x e n g last):=by
 obtain⟨v,b,k⟩:=HS (o:=[x]) (fr:=0) (by simp) [] e n g last c.1 c.2.1 c.2.2.1 c.2.2.2.1 c.2.2.2.2.1 c.2.2.2.2.2;have f:fc [] [x] 0 e n g last c.1 c.2.1 c.2.2.1 c.2.2.2.1 c.2.2.2.2.1 c.2.2.2.2.2=some (v,b):=k;unfold rq;rw[f,Option.getD_some,←f];have m:(0≤(fr:Int)∧(fr:Int)<(o.length:Int))=True:=eq_true (by omega);have g2:(0≤(0:Int)∧(0:Int)<(([x]:List Int).length:Int))=True:=eq_true (by simp);have g3:([x]:List Int).getD (0:Int).toNat 0=x:=rfl;unfold fc;simp only[m,g2,g3,if_true,Int.toNat_natCast,j]
theorem pZ(fr:Nat)(b:Int):vz fr b<0↔b<0:=by unfold vz;split <;> omega
theorem Fb(fr k:Nat):vz fr ((k:Nat):Int)=((fr+k:Nat):Int):=by unfold vz;rw[if_neg (by omega)];omega
theorem Cs{cl:List bB}(J:Dc cl){o:List Int}(ho:o.length=cl.length+1){fr n:Nat}(hn:fr+n≤cl.length)(c:Wy)(t0:1≤c.2.1)(t1:c.2.1≤64){a:Nat}(hp:(o.getD (fr+a) 0 == 3)=(yu (aM cl o fr) a == 3)){all:List (Int×Int)}(a1:all.length=n+1){F:Nat→Int×Int}
  (hF:∀k,a<k→k≤n→(all.getD k (0,0)).1=(F k).1∧(k<n→(all.getD k (0,0)).2=vz fr (F k).2)):∀m k e j full sp z,k+m=n→a≤k →
  iter (dT cl o ((fr+a:Nat):Int) (fr:Int) ((fr+n:Nat):Int) all c.1 c.2.1 c.2.2.1 c.2.2.2.1 c.2.2.2.2.1 c.2.2.2.2.2) (e,vz fr j,ia (aM cl o fr) c.2.1 a (k - a),full,sp,z,((fr+k+1:Nat):Int)) =
   some ((gI (aM cl o fr) n c F a m k e j full sp z).1,vz fr (gI (aM cl o fr) n c F a m k e j full sp z).2)
 | 0,k,e,j,full,sp,z,hk,ha=>by
  have E:¬(((fr+k+1:Nat):Int)≤((fr+n:Nat):Int)):=by omega
  exact bL (by simp only[dT,E,decide_false,Bool.false_eq_true,if_false,gI])
 | m+1,k,e,j,full,sp,z,hk,ha=>by
  have hl:=J.1;have L:=vI cl o fr c.2.1 a;obtain⟨b0,b1⟩:=sc J t0 t1 (fr+a) (k - a) (by omega);obtain⟨M,-,-⟩:=vG (c:=cl.getD (fr+k) c0) b0 (by omega) t0 t1 (J.2 _).1 (J.2 _).2;have a2:uL (cl.getD (fr+k) c0) (ry cl c.2.1 (fr+a) (k - a)) c.2.1=ia (aM cl o fr) c.2.1 a (k+1 - a):=by rw[←L,show k+1 - a=(k - a)+1 by omega];simp only[ry];rw[show fr+a+(k - a)=fr+k by omega]
  rw[a2,L]at M;obtain⟨Y,-,-⟩:=sh (cl:=cl) o (show fr+k≤fr+k+1 by omega) (by omega) (by omega);have Z:=EX cl (o:=o) (i:=fr+k+1) (by omega);rw[Fc cl o fr k]at Z;have E:((fr+k+1:Nat):Int)≤((fr+n:Nat):Int):=by omega
  have q2:i64.wrap (((fr+k+1:Nat):Int) - 1)=((fr+k:Nat):Int):=kZ (by omega);have q3:0≤((fr+k:Nat):Int):=by omega
  have q4:((fr+k:Nat):Int)<(cl.length:Int):=by omega
  have q5:i64.wrap (((fr+k+1:Nat):Int)+1)=((fr+(k+1)+1:Nat):Int):=bj (by omega);have q6:i64.wrap (((fr+k+1:Nat):Int) - (fr:Int))=((k+1:Nat):Int):=by rw[wrap_i64 (by omega) (by omega)];omega
  have q7:0≤((k+1:Nat):Int)∧((k+1:Nat):Int)<(all.length:Int):=by omega
  have ht:(((dF cl (fr+k) (fr+k+1):Nat):Int) == ((fr+k+1:Nat):Int)) = !(kd (aM cl o fr k)):=by
   have hh:rz (cl.getD (fr+k) c0)=kd (aM cl o fr k):=rfl;have:=(sh (cl:=cl) o (show fr+k≤fr+k by omega) (by omega) (by omega)).2.2;simp only[dF];rw[hh];cases he:kd (aM cl o fr k)with
   | true =>
    rw[if_pos ⟨by omega,rfl⟩,Bool.not_true,beq_eq_false_iff_ne];omega
   | false =>rw[if_neg (fun x=>by cases x.2)];simp
  have N:(if((cl.getD (fr+k) c0).2.2.2 == 1)=true then some (i64.wrap (sp+1))else some sp)=some (if(aM cl o fr k).2.1=1 then i64.wrap (sp+1)else sp):=by
   show(if((aM cl o fr k).2.1 == 1)=true then some (i64.wrap (sp+1))else some sp)=_;by_cases h:(aM cl o fr k).2.1=1
   ·rw[if_pos h,if_pos (by simpa using h)]
   ·rw[if_neg h,if_neg (by simpa using h)]
  have O:gI (aM cl o fr) n c F a (m+1) k e j full sp z=(
    let s:=if(aM cl o fr k).2.1=1 then i64.wrap (sp+1)else sp
    let f:=if kd (aM cl o fr k)=true then(full,z)else(ia (aM cl o fr) c.2.1 a (k+1 - a),s)
    if f.1 > c.1 then(e,j)
    else if(aM cl o fr k).2.2=0∨(k+1<n∧(F (k+1)).2<0)then gI (aM cl o fr) n c F a m (k+1) e j f.1 s f.2
    else
     let p:=rq c (yu (aM cl o fr) a) (aM cl o fr k).2.2 (if(aM cl o fr k).2.2=3 then i64.wrap (f.1+1)else f.1) f.2 (k+1 == n)
     if p.2=true∧(j<0∨i64.wrap (p.1+(F (k+1)).1)<e)then gI (aM cl o fr) n c F a m (k+1) (i64.wrap (p.1+(F (k+1)).1)) ((k+1:Nat):Int) f.1 s f.2
     else gI (aM cl o fr) n c F a m (k+1) e j f.1 s f.2):=rfl
  rw[O];clear O;simp only;generalize (if(aM cl o fr k).2.1=1 then i64.wrap (sp+1)else sp)=s at N;have q:(if(((dF cl (fr+k) (fr+k+1):Nat):Int) == ((fr+k+1:Nat):Int))=true then some (ia (aM cl o fr) c.2.1 a (k+1 - a),s)else some (full,z))=some (if kd (aM cl o fr k)=true then(full,z)else(ia (aM cl o fr) c.2.1 a (k+1 - a),s)):=by rw[ht];cases kd (aM cl o fr k) <;> rfl
  generalize (if kd (aM cl o fr k)=true then(full,z)else(ia (aM cl o fr) c.2.1 a (k+1 - a),s))=f at q;obtain⟨A,f2⟩:=f;obtain⟨r1,r2⟩:=hF (k+1) (by omega) (by omega);simp only;have ih:=Cs J ho hn c t0 t1 hp a1 hF m (k+1);by_cases I:A > c.1
  ·rw[if_pos I];refine bL ?_;simp only[dT,E,q2,q3,q4,M,Y,and_self,decide_true,if_true,Option.bind_some,Int.toNat_natCast];rw[N,Option.bind_some,q];simp only[Option.bind_some,I,decide_true,if_true]
  ·rw[if_neg I];have C:(if(!((aM cl o fr k).2.2 != 0))=true then some true else(if decide (((fr+k+1:Nat):Int)<((fr+n:Nat):Int))=true then some (decide ((all.getD (k+1) (0,0)).2<0))else some false))=some (decide ((aM cl o fr k).2.2=0∨(k+1<n∧(F (k+1)).2<0))):=by
    by_cases R:(aM cl o fr k).2.2=0
    ·rw[if_pos (by simp[R]),decide_eq_true (.inl R)]
    ·rw[if_neg (by simp[R])];by_cases g2:k+1<n
     ·rw[if_pos (by rw[decide_eq_true_eq];omega),r2 g2];have:(vz fr (F (k+1)).2<0)=((aM cl o fr k).2.2=0∨k+1<n∧(F (k+1)).2<0):=propext ⟨fun h=> .inr ⟨g2,(pZ _ _).1 h⟩,fun h=>(pZ _ _).2 (h.elim (fun x=>absurd x R) (fun x=>x.2))⟩;simp only[this]
     ·rw[if_neg (by rw[decide_eq_true_eq];omega),decide_eq_false (fun h=>h.elim R (fun x=>g2 x.1))]
   by_cases u:(aM cl o fr k).2.2=0∨(k+1<n∧(F (k+1)).2<0)
   ·rw[if_pos u,←ih _ _ _ _ _ (by omega) (by omega)];refine cT ?_;simp only[dT,E,q2,q3,q4,M,Y,and_self,decide_true,if_true,Option.bind_some,Int.toNat_natCast];rw[N,Option.bind_some,q];simp only[Option.bind_some,I,decide_false,Bool.false_eq_true,if_false,Z,q6,q7,and_self,if_true,Int.toNat_natCast];rw[C,decide_eq_true u];simp only[Option.bind_some,if_true,q5]
   ·rw[if_neg u];have V:(if((aM cl o fr k).2.2 == 3)=true then some (i64.wrap (A+1))else some A)=some (if(aM cl o fr k).2.2=3 then i64.wrap (A+1)else A):=by
     by_cases g:(aM cl o fr k).2.2=3
     ·rw[if_pos g,if_pos (by simpa using g)]
     ·rw[if_neg g,if_neg (by simpa using g)]
    have D:=Fy (o:=o) (fr:=fr+a) (by omega) cl hp c (aM cl o fr k).2.2 (if(aM cl o fr k).2.2=3 then i64.wrap (A+1)else A) f2 (k+1 == n);have v:(((fr+k+1:Nat):Int) == ((fr+n:Nat):Int))=(k+1 == n):=by
     by_cases g:k+1=n
     ·rw[beq_iff_eq.2 g,beq_iff_eq];omega
     ·rw[beq_eq_false_iff_ne.2 g,beq_eq_false_iff_ne];omega
    generalize rq c (yu (aM cl o fr) a) (aM cl o fr k).2.2 (if(aM cl o fr k).2.2=3 then i64.wrap (A+1)else A) f2 (k+1 == n)=p at D;obtain⟨p1,p2⟩:=p;simp only;have X:(if p2=true then(if decide (vz fr j<0)=true then some true else some (decide (i64.wrap (p1+(F (k+1)).1)<e)))else some false)=some (decide (p2=true∧(j<0∨i64.wrap (p1+(F (k+1)).1)<e))):=by
     cases p2 with
     | false=>simp
     | true =>
      by_cases g:j<0
      ·have:vz fr j<0:=(pZ _ _).2 g;simp[this,g]
      ·have:¬vz fr j<0:=fun h=>g ((pZ _ _).1 h)
       simp[this,g]
    by_cases B:p2=true∧(j<0∨i64.wrap (p1+(F (k+1)).1)<e)
    ·rw[if_pos B,←ih _ _ _ _ _ (by omega) (by omega),Fb];refine cT ?_;simp only[dT,E,q2,q3,q4,M,Y,and_self,decide_true,if_true,Option.bind_some,Int.toNat_natCast];rw[N,Option.bind_some,q];simp only[Option.bind_some,I,decide_false,Bool.false_eq_true,if_false,Z,q6,q7,and_self,if_true,Int.toNat_natCast];rw[C,decide_eq_false u,Option.bind_some,if_neg (by decide),V,Option.bind_some,v,D,Option.bind_some];simp only[r1];rw[X,decide_eq_true B];simp only[Option.bind_some,if_true,q5];rfl
    ·rw[if_neg B,←ih _ _ _ _ _ (by omega) (by omega)];refine cT ?_;simp only[dT,E,q2,q3,q4,M,Y,and_self,decide_true,if_true,Option.bind_some,Int.toNat_natCast];rw[N,Option.bind_some,q];simp only[Option.bind_some,I,decide_false,Bool.false_eq_true,if_false,Z,q6,q7,and_self,if_true,Int.toNat_natCast];rw[C,decide_eq_false u,Option.bind_some,if_neg (by decide),V,Option.bind_some,v,D,Option.bind_some];simp only[r1];rw[X,decide_eq_false B];simp only[Option.bind_some,Bool.false_eq_true,if_false,q5]
def IX(d:Dt)(n:Nat)(c:Wy)(e j:Nat)(t:List (Int×Int)):Prop :=
 t.length=n+1∧∀i,i≤j→(t.getD (n - j+i) (0,0)).1=((dJ d n c j).getD i (0,0)).1∧(i<j→(t.getD (n - j+i) (0,0)).2=vz e ((dJ d n c j).getD i (0,0)).2)
theorem Ba{α:Type}{l:List α}{i k:Nat}{x d:α}(hi:i<l.length):(l.set i x).getD k d=if k=i then x else l.getD k d:=by
 simp only[List.getD_eq_getElem?_getD,List.getElem?_set];by_cases h:i=k
 ·subst h;simp[hi]
 ·rw[if_neg h,if_neg (Ne.symm h)]
theorem set_set{α:Type}(l:List α)(i:Nat)(x y:α):(l.set i x).set i y=l.set i y:=by simp
theorem Gb{cl:List bB}(N:Dc cl){o:List Int}(X:o.length=cl.length+1){e n:Nat}(Y:e+n≤cl.length)(c:Wy)(Z:1≤c.2.1)(t1:c.2.1≤64)(h3:o.getD e 0≠3)(n0:0<n):
  ∃t,iter (fB cl o (e:Int) ((e+n:Nat):Int) c.1 c.2.1 c.2.2.1 c.2.2.2.1 c.2.2.2.2.1 c.2.2.2.2.2) (List.replicate (n+1) (0,0),((e+n - 1:Nat):Int))=some t∧IX (aM cl o e) n c e n t:=by
 have hl:=N.1;refine cH (fun z:List (Int×Int)×Int=>∃j:Nat,j≤n∧z.2=(e:Int)+(n:Int) - 1 - (j:Int)∧IX (aM cl o e) n c e j z.1) (fun z=>(z.2+1 - (e:Int)).toNat) _ ?_
  ⟨0,by omega,by simp only;omega,by simp,fun i hi=>⟨?_,fun h=>by omega⟩⟩
 ·rintro⟨t,v⟩ ⟨j,hj,hv,m,p⟩;simp only at hv;by_cases a1:j<n
  ·left
   obtain⟨a,ha⟩:∃a,n=a+j+1:=⟨n - j - 1,by omega⟩;obtain rfl:v=((e+a:Nat):Int):=by omega
   simp only at m p;have E:((e+a:Nat):Int)≥(e:Int):=by omega
   have O:i64.wrap (((e+a:Nat):Int) - (e:Int))=(a:Int):=by rw[wrap_i64 (by omega) (by omega)];omega
   have I:0≤(a:Int)∧(a:Int)<(t.length:Int):=by omega
   have u:a<t.length:=by omega
   have R:i64.wrap (((e+a:Nat):Int) - 1)=(e:Int)+(n:Int) - 1 - ((j+1:Nat):Int):=by rw[wrap_i64 (by omega) (by omega)];omega
   have A:(if(((e+a:Nat):Int) == (e:Int))=true then some true else(if 0≤((e+a:Nat):Int)∧((e+a:Nat):Int)<(o.length:Int)then some (o.getD (e+a) 0 != 0)else none))=some (decide (a=0∨yu (aM cl o e) a≠0)):=by
    by_cases g:a=0
    ·subst g;simp
    ·have g1:(((e+a:Nat):Int) == (e:Int))=false:=by rw[beq_eq_false_iff_ne];omega
     rw[g1,if_neg (by decide),if_pos (by omega),mR cl o e (by omega)];by_cases g2:yu (aM cl o e) a=0 <;> simp[g,g2]
   have B:vl (aM cl o e) n c (n - (j+1)) (dJ (aM cl o e) n c j)=vl (aM cl o e) n c a (dJ (aM cl o e) n c j):=by rw[show n - (j+1)=a by omega]
   have q:∀x:Int×Int,(x.1=(vl (aM cl o e) n c a (dJ (aM cl o e) n c j)).1∧x.2=vz e (vl (aM cl o e) n c a (dJ (aM cl o e) n c j)).2)→IX (aM cl o e) n c e (j+1) (t.set a x):=fun x V=>by
    refine⟨by rw[List.length_set];exact m,fun i hi=> ?_⟩;rw[show n - (j+1)+i=a+i by omega,Ba u];cases i with
    | zero =>
     rw[if_pos (by omega)];simp only[dJ,List.getD_cons_zero,B];exact⟨V.1,fun _=>V.2⟩
    | succ i =>rw[if_neg (by omega)];obtain⟨C,D⟩:=p i (by omega);rw[show n - j+i=a+(i+1) by omega]at C D;simp only[dJ,List.getD_cons_succ];exact⟨C,fun h=>D (by omega)⟩
   by_cases hb:a=0∨yu (aM cl o e) a≠0
   ·have hp:(o.getD (e+a) 0 == 3)=(yu (aM cl o e) a == 3):=by
     by_cases g:a=0
     ·subst g;rw[Nat.add_zero,beq_eq_false_iff_ne.2 h3];rfl
     ·rw[mR cl o e (by omega)]
    have f:=Cs N X Y c Z t1 hp (all:=t.set a (0,-1)) (F:=fun k=>(dJ (aM cl o e) n c j).getD (k - a - 1) (0,0)) (by rw[List.length_set];exact m) (fun k k1 k2=>by
     rw[Ba u,if_neg (by omega)];obtain⟨C,D⟩:=p (k - a - 1) (by omega);rw[show n - j+(k - a - 1)=k by omega]at C D;exact⟨C,fun h=>D (by omega)⟩) (n - a) a 0 (-1) 0 0 0 (by omega) (Nat.le_refl _)
    rw[Nat.sub_self]at f;simp only[ia]at f;have J:vz e (-1) = -1:=rfl;rw[J]at f;have L:vl (aM cl o e) n c a (dJ (aM cl o e) n c j)=gI (aM cl o e) n c (fun k=>(dJ (aM cl o e) n c j).getD (k - a - 1) (0,0)) a (n - a) a 0 (-1) 0 0 0:=by unfold vl;rw[if_pos hb]
    rw[←L]at f;generalize vl (aM cl o e) n c a (dJ (aM cl o e) n c j)=r at f q;have M:mJ cl o ((e+a:Nat):Int) (e:Int) ((e+n:Nat):Int) (t.set a (0,-1)) c.1 c.2.1 c.2.2.1 c.2.2.2.1 c.2.2.2.2.1 c.2.2.2.2.2=some (r.1,vz e r.2):=by unfold mJ;rw[show i64.wrap (((e+a:Nat):Int)+1)=((e+a+1:Nat):Int)from bj (by omega),f];rfl
    refine⟨(t.set a (r.1,vz e r.2),(e:Int)+(n:Int) - 1 - ((j+1:Nat):Int)),?_,⟨j+1,by omega,rfl,q _ ⟨rfl,rfl⟩⟩,by simp only;omega⟩;simp only[fB,E,O,I,u,and_self,decide_true,if_true,Int.toNat_natCast];rw[A,decide_eq_true hb];simp only[Option.bind_some,if_true,M,List.length_set,I,u,and_self,set_set,R]
   ·have L:vl (aM cl o e) n c a (dJ (aM cl o e) n c j)=(0,-1):=by unfold vl;rw[if_neg hb]
    refine⟨(t.set a (0,-1),(e:Int)+(n:Int) - 1 - ((j+1:Nat):Int)),?_,⟨j+1,by omega,rfl,q _ (by rw[L];exact⟨rfl,rfl⟩)⟩,by simp only;omega⟩;simp only[fB,E,O,I,u,and_self,decide_true,if_true,Int.toNat_natCast];rw[A,decide_eq_false hb];simp only[Option.bind_some,Bool.false_eq_true,if_false,R]
  ·right
   obtain rfl:j=n:=by omega
   refine⟨t,?_,m,p⟩;have E:¬(v≥(e:Int)):=by omega
   simp only[fB,E,decide_false,Bool.false_eq_true,if_false]
 ·obtain rfl:i=0:=by omega
  simp[dJ]
theorem zH{cl:List bB}(p:Dc cl){o:List Int}(B:o.length=cl.length+1){e n:Nat}(C:e+n≤cl.length)(c:Wy)(v:1≤c.2.1)(z:c.2.1≤64){t:List (Int×Int)}(D:IX (aM cl o e) n c e n t):
  ∀m a out,a≤n→n≤a+m→out.length≤a→(a<n→0≤((dJ (aM cl o e) n c n).getD a (0,0)).2)→iter (fu cl o (e:Int) ((e+n:Nat):Int) c.2.1 t) (out,((e+a:Nat):Int))=some (out++dn (jf (aM cl o e) n c.2.1 (dJ (aM cl o e) n c n) m a) (e:Int))
 | 0,a,out,E,I,J,A=>by
  obtain rfl:a=n:=by omega
  have f:¬(((e+a:Nat):Int)<((e+a:Nat):Int)):=by omega
  exact bL (by simp only[fu,f,decide_false,Bool.false_eq_true,if_false,jf,dn,List.map_nil,List.append_nil])
 | m+1,a,out,E,I,J,A=>by
  have hl:=p.1;obtain⟨q,j⟩:=D;by_cases ha:a<n
  ·obtain⟨L,M,u⟩:=tw (aM cl o e) n c a ha (A ha);have hT:=(j a (by omega)).2 ha;rw[Nat.sub_self,Nat.zero_add]at hT;simp only[jf];rw[if_pos ha,show ∀(x:bB) l,dn (x::l) (e:Int)=dn [x] (e:Int)++dn l (e:Int)from fun _ _=>rfl,Fa,←List.append_assoc];generalize ((dJ (aM cl o e) n c n).getD a (0,0)).2=b at L M u hT;obtain⟨k,rfl⟩:∃k:Nat,b=(k:Int):=⟨b.toNat,by omega⟩;rw[Int.toNat_natCast]at u ⊢;rw[←zH p B C c v z ⟨q,j⟩ m k _ (by omega) (by omega) (by simp;omega) (fun h=>u (by omega))];refine cT ?_;rw[Fb]at hT;have f:((e+a:Nat):Int)<((e+n:Nat):Int):=by omega
   have N:i64.wrap (((e+a:Nat):Int) - (e:Int))=(a:Int):=by rw[wrap_i64 (by omega) (by omega)];omega
   have O:0≤(a:Int)∧(a:Int)<(t.length:Int):=by omega
   have R:a<t.length:=by omega
   have V:0≤((e+k:Nat):Int)∧((e+k:Nat):Int)<(o.length:Int):=by omega
   simp only[fu,f,N,O,R,hT,V,and_self,decide_true,if_true,Int.toNat_natCast];rw[sV p o v z (by omega) (by omega),mL cl o e c.2.1 (by omega),mR cl o e (by omega)];simp only[Option.bind_some,List.length_singleton];rw[if_pos (by omega)]
  ·obtain rfl:a=n:=by omega
   have f:¬(((e+a:Nat):Int)<((e+a:Nat):Int)):=by omega
   simp only[jf];rw[if_neg ha];exact bL (by simp only[fu,f,decide_false,Bool.false_eq_true,if_false,dn,List.map_nil,List.append_nil])
theorem zT{cl:List bB}(k:Dc cl){o:List Int}(p:o.length=cl.length+1){f n:Nat}(q:f+n≤cl.length)(c:Wy)(u:1≤c.2.1)(v:c.2.1≤64)(A:o.getD f 0≠3):
  lv cl o (f:Int) ((f+n:Nat):Int) c.1 c.2.1 c.2.2.1 c.2.2.2.1 c.2.2.2.2.1 c.2.2.2.2.2=some (match qG (aM cl o f) n c with | some l=>(dn l (f:Int),true) | none=>([],false)):=by
 have hl:=k.1;unfold lv qG;by_cases z:n=0
 ·subst z;rw[if_pos (by rw[decide_eq_true_eq];omega),if_pos rfl];rfl
 ·have B:i64.wrap (i64.wrap (((f+n:Nat):Int) - (f:Int))+1)=((n+1:Nat):Int):=by rw[wrap_i64 (x:=((f+n:Nat):Int) - (f:Int)) (by omega) (by omega),wrap_i64 (by omega) (by omega)];omega
  have C:i64.wrap (((f+n:Nat):Int) - 1)=((f+n - 1:Nat):Int):=by rw[wrap_i64 (by omega) (by omega)];omega
  obtain⟨t,D,m⟩:=Gb k p q c u v A (by omega);have j:=(m.2 0 (by omega)).2 (by omega);rw[Nat.sub_self]at j;rw[if_neg (by rw[decide_eq_true_eq];omega),if_neg z,B,C,if_pos (by omega),Int.toNat_natCast,D,Option.bind_some];have E:=m.1;rw[if_pos (by omega),if_pos (by show 0<t.length;omega)];rw[show(0:Int).toNat=0 from rfl,j];by_cases e:((dJ (aM cl o f) n c n).getD 0 (0,0)).2<0
  ·rw[if_pos (by rw[decide_eq_true_eq];exact(pZ _ _).2 e),if_pos e]
  ·rw[if_neg (by rw[decide_eq_true_eq];exact fun h=>e ((pZ _ _).1 h)),if_neg e];have:=zH k p q c u v m n 0 [] (by omega) (by omega) (by simp) (fun _=>by omega);rw[Nat.add_zero,List.nil_append]at this;rw[this];rfl
theorem ID{cl:List bB}(k:Dc cl){o:List Int}(m:o.length=cl.length+1){f n:Nat}(p:f+n≤cl.length)(c:Wy)(q:1≤c.2.1)(u:c.2.1≤64)(v:o.getD f 0≠3):
  ib cl o (f:Int) ((f+n:Nat):Int) c.1 c.2.1 c.2.2.1 c.2.2.2.1 c.2.2.2.2.1 c.2.2.2.2.2=some (dn (gK (aM cl o f) n c).1 (f:Int),(gK (aM cl o f) n c).2):=by
 unfold ib gK;rw[yz k m p c.1 q u,zT k m p c q u v];by_cases j:c.2.2.1=1
 ·have e:(c.2.2.1 == 1)=true:=by simpa using j
  rw[if_pos e,if_pos j];cases qG (aM cl o f) n c <;> simp[e]
 ·have e:(c.2.2.1 == 1)=false:=by simpa using j
  rw[if_neg (by rw[e];decide),if_neg j];simp[e]
end
end Go.Proofs.YtmcemnfjddoejaaGreatDoor.T
