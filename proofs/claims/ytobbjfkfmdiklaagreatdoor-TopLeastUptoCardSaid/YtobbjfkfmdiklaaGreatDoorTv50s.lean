import Derived.Test.YtobbjfkfmdiklaaGreatDoorTvFbm
namespace Go.Proofs.YtobbjfkfmdiklaaGreatDoor.T
open Go Go.Tv Go.Proofs
open Go.IntKind (i64)
noncomputable section
theorem yu{o:QK}{fr:Nat}(q:fr<o.length)(cl:Qw){x:Int}(j:(o.getD fr 0 == 3)=(x == 3))(c:Wy)(e n g:Int)(last:Bool):dE cl o (fr:Int) e n g last c.1 c.2.1 c.2.2.1 c.2.2.2.1 c.2.2.2.2.1 c.2.2.2.2.2=some (fZ c x e n g last):=by
 obtain⟨v,b,hp⟩:=HZ (o:=[x]) (fr:=0) (by simp) [] e n g last c.1 c.2.1 c.2.2.1 c.2.2.2.1 c.2.2.2.2.1 c.2.2.2.2.2;have f:dE [] [x] 0 e n g last c.1 c.2.1 c.2.2.1 c.2.2.2.1 c.2.2.2.2.1 c.2.2.2.2.2=some (v,b):=hp;unfold fZ;rw[f,Option.getD_some,←f];have p:(0≤(fr:Int)∧(fr:Int)<(o.length:Int))=True:=eq_true (by omega);have g2:(0≤(0:Int)∧(0:Int)<(([x]:QK).length:Int))=True:=eq_true (by simp);have g3:([x]:QK).getD (0:Int).toNat 0=x:=rfl;unfold dE;simp only[p,g2,g3,if_true,Int.toNat_natCast,j]
theorem pR(fr:Nat)(b:Int):uI fr b<0↔b<0:=by unfold uI;split <;> omega
theorem En(fr k:Nat):uI fr ((k:Nat):Int)=((fr+k:Nat):Int):=by unfold uI;rw[if_neg (by omega)];omega
theorem Cc{cl:Qw}(hc:uT cl){o:QK}(ho:o.length=cl.length+1){fr n:Nat}(hn:fr+n≤cl.length)(c:Wy)(t0:1≤c.2.1)(t1:c.2.1≤64){a:Nat}(hp:(o.getD (fr+a) 0 == 3)=(ll (aH cl o fr) a == 3)){all:Qq}(a1:all.length=n+1){F:Nat→Int×Int}
  (hF:∀k,a<k→k≤n→(all.getD k (0,0)).1=(F k).1∧(k<n→(all.getD k (0,0)).2=uI fr (F k).2)):∀m k j q full sp A,k+m=n→a≤k →
  iter (eK cl o ((fr+a:Nat):Int) (fr:Int) ((fr+n:Nat):Int) all c.1 c.2.1 c.2.2.1 c.2.2.2.1 c.2.2.2.2.1 c.2.2.2.2.2) (j,uI fr q,dD (aH cl o fr) c.2.1 a (k - a),full,sp,A,((fr+k+1:Nat):Int)) =
   some ((dY (aH cl o fr) n c F a m k j q full sp A).1,uI fr (dY (aH cl o fr) n c F a m k j q full sp A).2)
 | 0,k,j,q,full,sp,A,hk,ha=>by
  have I:¬(((fr+k+1:Nat):Int)≤((fr+n:Nat):Int)):=by omega
  exact cR (by simp only[eK,I,decide_false,Bool.false_eq_true,if_false,dY])
 | m+1,k,j,q,full,sp,A,hk,ha=>by
  have hl:=hc.1;have L:=nA cl o fr c.2.1 a;obtain⟨b0,b1⟩:=nC hc t0 t1 (fr+a) (k - a) (by omega);obtain⟨M,-,-⟩:=sa (c:=cl.getD (fr+k) c0) b0 (by omega) t0 t1 (hc.2 _).1 (hc.2 _).2;have a2:uo (cl.getD (fr+k) c0) (p7 cl c.2.1 (fr+a) (k - a)) c.2.1=dD (aH cl o fr) c.2.1 a (k+1 - a):=by rw[←L,show k+1 - a=(k - a)+1 by omega];simp only[p7];rw[show fr+a+(k - a)=fr+k by omega]
  rw[a2,L]at M;obtain⟨Z,-,-⟩:=pT (cl:=cl) o (show fr+k≤fr+k+1 by omega) (by omega) (by omega);have e3:=uW cl (o:=o) (i:=fr+k+1) (by omega);rw[DW cl o fr k]at e3;have I:((fr+k+1:Nat):Int)≤((fr+n:Nat):Int):=by omega
  have q2:i64.wrap (((fr+k+1:Nat):Int) - 1)=((fr+k:Nat):Int):=lQ (by omega);have q3:0≤((fr+k:Nat):Int):=by omega
  have q4:((fr+k:Nat):Int)<(cl.length:Int):=by omega
  have q5:i64.wrap (((fr+k+1:Nat):Int)+1)=((fr+(k+1)+1:Nat):Int):=bD (by omega);have q6:i64.wrap (((fr+k+1:Nat):Int) - (fr:Int))=((k+1:Nat):Int):=by rw[wrap_i64 (by omega) (by omega)];omega
  have q7:0≤((k+1:Nat):Int)∧((k+1:Nat):Int)<(all.length:Int):=by omega
  have ht:(((dN cl (fr+k) (fr+k+1):Nat):Int) == ((fr+k+1:Nat):Int)) = !(iD (aH cl o fr k)):=by
   have hh:qz (cl.getD (fr+k) c0)=iD (aH cl o fr k):=rfl;have:=(pT (cl:=cl) o (show fr+k≤fr+k by omega) (by omega) (by omega)).2.2;simp only[dN];rw[hh];cases he:iD (aH cl o fr k)with
   | true =>
    rw[if_pos ⟨by omega,rfl⟩,Bool.not_true,beq_eq_false_iff_ne];omega
   | false =>rw[if_neg (fun x=>by cases x.2)];simp
  have N:(if((cl.getD (fr+k) c0).2.2.2 == 1)=true then some (i64.wrap (sp+1))else some sp)=some (if(aH cl o fr k).2.1=1 then i64.wrap (sp+1)else sp):=by
   show(if((aH cl o fr k).2.1 == 1)=true then some (i64.wrap (sp+1))else some sp)=_;by_cases h:(aH cl o fr k).2.1=1
   ·rw[if_pos h,if_pos (by simpa using h)]
   ·rw[if_neg h,if_neg (by simpa using h)]
  have O:dY (aH cl o fr) n c F a (m+1) k j q full sp A=(
    let s:=if(aH cl o fr k).2.1=1 then i64.wrap (sp+1)else sp
    let f:=if iD (aH cl o fr k)=true then(full,A)else(dD (aH cl o fr) c.2.1 a (k+1 - a),s)
    if f.1 > c.1 then(j,q)
    else if(aH cl o fr k).2.2=0∨(k+1<n∧(F (k+1)).2<0)then dY (aH cl o fr) n c F a m (k+1) j q f.1 s f.2
    else
     let p:=fZ c (ll (aH cl o fr) a) (aH cl o fr k).2.2 (if(aH cl o fr k).2.2=3 then i64.wrap (f.1+1)else f.1) f.2 (k+1 == n)
     if p.2=true∧(q<0∨i64.wrap (p.1+(F (k+1)).1)<j)then dY (aH cl o fr) n c F a m (k+1) (i64.wrap (p.1+(F (k+1)).1)) ((k+1:Nat):Int) f.1 s f.2
     else dY (aH cl o fr) n c F a m (k+1) j q f.1 s f.2):=rfl
  rw[O];clear O;simp only;generalize (if(aH cl o fr k).2.1=1 then i64.wrap (sp+1)else sp)=s at N;have u:(if(((dN cl (fr+k) (fr+k+1):Nat):Int) == ((fr+k+1:Nat):Int))=true then some (dD (aH cl o fr) c.2.1 a (k+1 - a),s)else some (full,A))=some (if iD (aH cl o fr k)=true then(full,A)else(dD (aH cl o fr) c.2.1 a (k+1 - a),s)):=by rw[ht];cases iD (aH cl o fr k) <;> rfl
  generalize (if iD (aH cl o fr k)=true then(full,A)else(dD (aH cl o fr) c.2.1 a (k+1 - a),s))=f at u;obtain⟨B,f2⟩:=f;obtain⟨r1,r2⟩:=hF (k+1) (by omega) (by omega);simp only;have ih:=Cc hc ho hn c t0 t1 hp a1 hF m (k+1);by_cases J:B > c.1
  ·rw[if_pos J];refine cR ?_;simp only[eK,I,q2,q3,q4,M,Z,and_self,decide_true,if_true,Option.bind_some,Int.toNat_natCast];rw[N,Option.bind_some,u];simp only[Option.bind_some,J,decide_true,if_true]
  ·rw[if_neg J];have D:(if(!((aH cl o fr k).2.2 != 0))=true then some true else(if decide (((fr+k+1:Nat):Int)<((fr+n:Nat):Int))=true then some (decide ((all.getD (k+1) (0,0)).2<0))else some false))=some (decide ((aH cl o fr k).2.2=0∨(k+1<n∧(F (k+1)).2<0))):=by
    by_cases V:(aH cl o fr k).2.2=0
    ·rw[if_pos (by simp[V]),decide_eq_true (.inl V)]
    ·rw[if_neg (by simp[V])];by_cases g2:k+1<n
     ·rw[if_pos (by rw[decide_eq_true_eq];omega),r2 g2];have:(uI fr (F (k+1)).2<0)=((aH cl o fr k).2.2=0∨k+1<n∧(F (k+1)).2<0):=propext ⟨fun h=> .inr ⟨g2,(pR _ _).1 h⟩,fun h=>(pR _ _).2 (h.elim (fun x=>absurd x V) (fun x=>x.2))⟩;simp only[this]
     ·rw[if_neg (by rw[decide_eq_true_eq];omega),decide_eq_false (fun h=>h.elim V (fun x=>g2 x.1))]
   by_cases v:(aH cl o fr k).2.2=0∨(k+1<n∧(F (k+1)).2<0)
   ·rw[if_pos v,←ih _ _ _ _ _ (by omega) (by omega)];refine fm ?_;simp only[eK,I,q2,q3,q4,M,Z,and_self,decide_true,if_true,Option.bind_some,Int.toNat_natCast];rw[N,Option.bind_some,u];simp only[Option.bind_some,J,decide_false,Bool.false_eq_true,if_false,e3,q6,q7,and_self,if_true,Int.toNat_natCast];rw[D,decide_eq_true v];simp only[Option.bind_some,if_true,q5]
   ·rw[if_neg v];have X:(if((aH cl o fr k).2.2 == 3)=true then some (i64.wrap (B+1))else some B)=some (if(aH cl o fr k).2.2=3 then i64.wrap (B+1)else B):=by
     by_cases g:(aH cl o fr k).2.2=3
     ·rw[if_pos g,if_pos (by simpa using g)]
     ·rw[if_neg g,if_neg (by simpa using g)]
    have E:=yu (o:=o) (fr:=fr+a) (by omega) cl hp c (aH cl o fr k).2.2 (if(aH cl o fr k).2.2=3 then i64.wrap (B+1)else B) f2 (k+1 == n);have z:(((fr+k+1:Nat):Int) == ((fr+n:Nat):Int))=(k+1 == n):=by
     by_cases g:k+1=n
     ·rw[beq_iff_eq.2 g,beq_iff_eq];omega
     ·rw[beq_eq_false_iff_ne.2 g,beq_eq_false_iff_ne];omega
    generalize fZ c (ll (aH cl o fr) a) (aH cl o fr k).2.2 (if(aH cl o fr k).2.2=3 then i64.wrap (B+1)else B) f2 (k+1 == n)=p at E;obtain⟨p1,p2⟩:=p;simp only;have Y:(if p2=true then(if decide (uI fr q<0)=true then some true else some (decide (i64.wrap (p1+(F (k+1)).1)<j)))else some false)=some (decide (p2=true∧(q<0∨i64.wrap (p1+(F (k+1)).1)<j))):=by
     cases p2 with
     | false=>simp
     | true =>
      by_cases g:q<0
      ·have:uI fr q<0:=(pR _ _).2 g;simp[this,g]
      ·have:¬uI fr q<0:=fun h=>g ((pR _ _).1 h)
       simp[this,g]
    by_cases C:p2=true∧(q<0∨i64.wrap (p1+(F (k+1)).1)<j)
    ·rw[if_pos C,←ih _ _ _ _ _ (by omega) (by omega),En];refine fm ?_;simp only[eK,I,q2,q3,q4,M,Z,and_self,decide_true,if_true,Option.bind_some,Int.toNat_natCast];rw[N,Option.bind_some,u];simp only[Option.bind_some,J,decide_false,Bool.false_eq_true,if_false,e3,q6,q7,and_self,if_true,Int.toNat_natCast];rw[D,decide_eq_false v,Option.bind_some,if_neg (by decide),X,Option.bind_some,z,E,Option.bind_some];simp only[r1];rw[Y,decide_eq_true C];simp only[Option.bind_some,if_true,q5];rfl
    ·rw[if_neg C,←ih _ _ _ _ _ (by omega) (by omega)];refine fm ?_;simp only[eK,I,q2,q3,q4,M,Z,and_self,decide_true,if_true,Option.bind_some,Int.toNat_natCast];rw[N,Option.bind_some,u];simp only[Option.bind_some,J,decide_false,Bool.false_eq_true,if_false,e3,q6,q7,and_self,if_true,Int.toNat_natCast];rw[D,decide_eq_false v,Option.bind_some,if_neg (by decide),X,Option.bind_some,z,E,Option.bind_some];simp only[r1];rw[Y,decide_eq_false C];simp only[Option.bind_some,Bool.false_eq_true,if_false,q5]
def Iv(d:Dt)(n:Nat)(c:Wy)(f j:Nat)(t:Qq):Prop :=
 t.length=n+1∧∀i,i≤j→(t.getD (n - j+i) (0,0)).1=((cZ d n c j).getD i (0,0)).1∧(i<j→(t.getD (n - j+i) (0,0)).2=uI f ((cZ d n c j).getD i (0,0)).2)
theorem BF{α:Type}{l:List α}{i k:Nat}{x d:α}(hi:i<l.length):(l.set i x).getD k d=if k=i then x else l.getD k d:=by
 simp only[List.getD_eq_getElem?_getD,List.getElem?_set];by_cases h:i=k
 ·subst h;simp[hi]
 ·rw[if_neg h,if_neg (Ne.symm h)]
theorem set_set{α:Type}(l:List α)(i:Nat)(x y:α):(l.set i x).set i y=l.set i y:=by simp
theorem E5{cl:Qw}(hc:uT cl){o:QK}(ho:o.length=cl.length+1){f n:Nat}(hn:f+n≤cl.length)(c:Wy)(Z:1≤c.2.1)(t1:c.2.1≤64)(h3:o.getD f 0≠3)(n0:0<n):
  ∃t,iter (fT cl o (f:Int) ((f+n:Nat):Int) c.1 c.2.1 c.2.2.1 c.2.2.2.1 c.2.2.2.2.1 c.2.2.2.2.2) (List.replicate (n+1) (0,0),((f+n - 1:Nat):Int))=some t∧Iv (aH cl o f) n c f n t:=by
 have hl:=hc.1;refine dh (fun z:Qq×Int=>∃j:Nat,j≤n∧z.2=(f:Int)+(n:Int) - 1 - (j:Int)∧Iv (aH cl o f) n c f j z.1) (fun z=>(z.2+1 - (f:Int)).toNat) _ ?_
  ⟨0,by omega,by simp only;omega,by simp,fun i hi=>⟨?_,fun h=>by omega⟩⟩
 ·rintro⟨t,v⟩ ⟨j,hj,hv,q,u⟩;simp only at hv;by_cases a1:j<n
  ·left
   obtain⟨a,ha⟩:∃a,n=a+j+1:=⟨n - j - 1,by omega⟩;obtain rfl:v=((f+a:Nat):Int):=by omega
   simp only at q u;have J:((f+a:Nat):Int)≥(f:Int):=by omega
   have V:i64.wrap (((f+a:Nat):Int) - (f:Int))=(a:Int):=by rw[wrap_i64 (by omega) (by omega)];omega
   have L:0≤(a:Int)∧(a:Int)<(t.length:Int):=by omega
   have B:a<t.length:=by omega
   have X:i64.wrap (((f+a:Nat):Int) - 1)=(f:Int)+(n:Int) - 1 - ((j+1:Nat):Int):=by rw[wrap_i64 (by omega) (by omega)];omega
   have C:(if(((f+a:Nat):Int) == (f:Int))=true then some true else(if 0≤((f+a:Nat):Int)∧((f+a:Nat):Int)<(o.length:Int)then some (o.getD (f+a) 0 != 0)else none))=some (decide (a=0∨ll (aH cl o f) a≠0)):=by
    by_cases g:a=0
    ·subst g;simp
    ·have g1:(((f+a:Nat):Int) == (f:Int))=false:=by rw[beq_eq_false_iff_ne];omega
     rw[g1,if_neg (by decide),if_pos (by omega),jn cl o f (by omega)];by_cases g2:ll (aH cl o f) a=0 <;> simp[g,g2]
   have D:sV (aH cl o f) n c (n - (j+1)) (cZ (aH cl o f) n c j)=sV (aH cl o f) n c a (cZ (aH cl o f) n c j):=by rw[show n - (j+1)=a by omega]
   have A:∀x:Int×Int,(x.1=(sV (aH cl o f) n c a (cZ (aH cl o f) n c j)).1∧x.2=uI f (sV (aH cl o f) n c a (cZ (aH cl o f) n c j)).2)→Iv (aH cl o f) n c f (j+1) (t.set a x):=fun x Y=>by
    refine⟨by rw[List.length_set];exact q,fun i hi=>?_⟩;rw[show n - (j+1)+i=a+i by omega,BF B];cases i with
    | zero =>
     rw[if_pos (by omega)];simp only[cZ,List.getD_cons_zero,D];exact⟨Y.1,fun _=>Y.2⟩
    | succ i =>rw[if_neg (by omega)];obtain⟨E,I⟩:=u i (by omega);rw[show n - j+i=a+(i+1) by omega]at E I;simp only[cZ,List.getD_cons_succ];exact⟨E,fun h=>I (by omega)⟩
   by_cases hb:a=0∨ll (aH cl o f) a≠0
   ·have hp:(o.getD (f+a) 0 == 3)=(ll (aH cl o f) a == 3):=by
     by_cases g:a=0
     ·subst g;rw[Nat.add_zero,beq_eq_false_iff_ne.2 h3];rfl
     ·rw[jn cl o f (by omega)]
    have p:=Cc hc ho hn c Z t1 hp (all:=t.set a (0,-1)) (F:=fun k=>(cZ (aH cl o f) n c j).getD (k - a - 1) (0,0)) (by rw[List.length_set];exact q) (fun k k1 k2=>by
     rw[BF B,if_neg (by omega)];obtain⟨E,I⟩:=u (k - a - 1) (by omega);rw[show n - j+(k - a - 1)=k by omega]at E I;exact⟨E,fun h=>I (by omega)⟩) (n - a) a 0 (-1) 0 0 0 (by omega) (Nat.le_refl _)
    rw[Nat.sub_self]at p;simp only[dD]at p;have M:uI f (-1) = -1:=rfl;rw[M]at p;have N:sV (aH cl o f) n c a (cZ (aH cl o f) n c j)=dY (aH cl o f) n c (fun k=>(cZ (aH cl o f) n c j).getD (k - a - 1) (0,0)) a (n - a) a 0 (-1) 0 0 0:=by unfold sV;rw[if_pos hb]
    rw[←N]at p;generalize sV (aH cl o f) n c a (cZ (aH cl o f) n c j)=r at p A;have O:mR cl o ((f+a:Nat):Int) (f:Int) ((f+n:Nat):Int) (t.set a (0,-1)) c.1 c.2.1 c.2.2.1 c.2.2.2.1 c.2.2.2.2.1 c.2.2.2.2.2=some (r.1,uI f r.2):=by unfold mR;rw[show i64.wrap (((f+a:Nat):Int)+1)=((f+a+1:Nat):Int)from bD (by omega),p];rfl
    refine⟨(t.set a (r.1,uI f r.2),(f:Int)+(n:Int) - 1 - ((j+1:Nat):Int)),?_,⟨j+1,by omega,rfl,A _ ⟨rfl,rfl⟩⟩,by simp only;omega⟩;simp only[fT,J,V,L,B,and_self,decide_true,if_true,Int.toNat_natCast];rw[C,decide_eq_true hb];simp only[Option.bind_some,if_true,O,List.length_set,L,B,and_self,set_set,X]
   ·have N:sV (aH cl o f) n c a (cZ (aH cl o f) n c j)=(0,-1):=by unfold sV;rw[if_neg hb]
    refine⟨(t.set a (0,-1),(f:Int)+(n:Int) - 1 - ((j+1:Nat):Int)),?_,⟨j+1,by omega,rfl,A _ (by rw[N];exact⟨rfl,rfl⟩)⟩,by simp only;omega⟩;simp only[fT,J,V,L,B,and_self,decide_true,if_true,Int.toNat_natCast];rw[C,decide_eq_false hb];simp only[Option.bind_some,Bool.false_eq_true,if_false,X]
  ·right
   obtain rfl:j=n:=by omega
   refine⟨t,?_,q,u⟩;have J:¬(v≥(f:Int)):=by omega
   simp only[fT,J,decide_false,Bool.false_eq_true,if_false]
 ·obtain rfl:i=0:=by omega
  simp[cZ]
theorem yC{cl:Qw}(hc:uT cl){o:QK}(ho:o.length=cl.length+1){f n:Nat}(hn:f+n≤cl.length)(c:Wy)(z:1≤c.2.1)(A:c.2.1≤64){t:Qq}(ht:Iv (aH cl o f) n c f n t):
  ∀m a out,a≤n→n≤a+m→out.length≤a→(a<n→0≤((cZ (aH cl o f) n c n).getD a (0,0)).2)→iter (fW cl o (f:Int) ((f+n:Nat):Int) c.2.1 t) (out,((f+a:Nat):Int))=some (out++gI (gT (aH cl o f) n c.2.1 (cZ (aH cl o f) n c n) m a) (f:Int))
 | 0,a,out,h1,h2,C,B=>by
  obtain rfl:a=n:=by omega
  have j:¬(((f+a:Nat):Int)<((f+a:Nat):Int)):=by omega
  exact cR (by simp only[fW,j,decide_false,Bool.false_eq_true,if_false,gT,gI,List.map_nil,List.append_nil])
 | m+1,a,out,h1,h2,C,B=>by
  have hl:=hc.1;obtain⟨u,p⟩:=ht;by_cases ha:a<n
  ·obtain⟨D,E,v⟩:=rK (aH cl o f) n c a ha (B ha);have hT:=(p a (by omega)).2 ha;rw[Nat.sub_self,Nat.zero_add]at hT;simp only[gT];rw[if_pos ha,show ∀(x:bK) l,gI (x::l) (f:Int)=gI [x] (f:Int)++gI l (f:Int)from fun _ _=>rfl,Ed,←List.append_assoc];generalize ((cZ (aH cl o f) n c n).getD a (0,0)).2=b at D E v hT;obtain⟨q,rfl⟩:∃q:Nat,b=(q:Int):=⟨b.toNat,by omega⟩;rw[Int.toNat_natCast]at v ⊢;rw[←yC hc ho hn c z A ⟨u,p⟩ m q _ (by omega) (by omega) (by simp;omega) (fun h=>v (by omega))];refine fm ?_;rw[En]at hT;have j:((f+a:Nat):Int)<((f+n:Nat):Int):=by omega
   have I:i64.wrap (((f+a:Nat):Int) - (f:Int))=(a:Int):=by rw[wrap_i64 (by omega) (by omega)];omega
   have J:0≤(a:Int)∧(a:Int)<(t.length:Int):=by omega
   have L:a<t.length:=by omega
   have M:0≤((f+q:Nat):Int)∧((f+q:Nat):Int)<(o.length:Int):=by omega
   simp only[fW,j,I,J,L,hT,M,and_self,decide_true,if_true,Int.toNat_natCast];rw[nB hc o z A (by omega) (by omega),lh cl o f c.2.1 (by omega),jn cl o f (by omega)];simp only[Option.bind_some,List.length_singleton];rw[if_pos (by omega)]
  ·obtain rfl:a=n:=by omega
   have j:¬(((f+a:Nat):Int)<((f+a:Nat):Int)):=by omega
   simp only[gT];rw[if_neg ha];exact cR (by simp only[fW,j,decide_false,Bool.false_eq_true,if_false,gI,List.map_nil,List.append_nil])
theorem yZ{cl:Qw}(hc:uT cl){o:QK}(ho:o.length=cl.length+1){j n:Nat}(hn:j+n≤cl.length)(c:Wy)(q:1≤c.2.1)(u:c.2.1≤64)(z:o.getD j 0≠3):
  lK cl o (j:Int) ((j+n:Nat):Int) c.1 c.2.1 c.2.2.1 c.2.2.2.1 c.2.2.2.2.1 c.2.2.2.2.2=some (match iP (aH cl o j) n c with | some l=>(gI l (j:Int),true) | none=>([],false)):=by
 have hl:=hc.1;unfold lK iP;by_cases v:n=0
 ·subst v;rw[if_pos (by rw[decide_eq_true_eq];omega),if_pos rfl];rfl
 ·have A:i64.wrap (i64.wrap (((j+n:Nat):Int) - (j:Int))+1)=((n+1:Nat):Int):=by rw[wrap_i64 (x:=((j+n:Nat):Int) - (j:Int)) (by omega) (by omega),wrap_i64 (by omega) (by omega)];omega
  have B:i64.wrap (((j+n:Nat):Int) - 1)=((j+n - 1:Nat):Int):=by rw[wrap_i64 (by omega) (by omega)];omega
  obtain⟨t,C,ht⟩:=E5 hc ho hn c q u z (by omega);have p:=(ht.2 0 (by omega)).2 (by omega);rw[Nat.sub_self]at p;rw[if_neg (by rw[decide_eq_true_eq];omega),if_neg v,A,B,if_pos (by omega),Int.toNat_natCast,C,Option.bind_some];have D:=ht.1;rw[if_pos (by omega),if_pos (by show 0<t.length;omega)];rw[show(0:Int).toNat=0 from rfl,p];by_cases f:((cZ (aH cl o j) n c n).getD 0 (0,0)).2<0
  ·rw[if_pos (by rw[decide_eq_true_eq];exact(pR _ _).2 f),if_pos f]
  ·rw[if_neg (by rw[decide_eq_true_eq];exact fun h=>f ((pR _ _).1 h)),if_neg f];have:=yC hc ho hn c q u ht n 0 [] (by omega) (by omega) (by simp) (fun _=>by omega);rw[Nat.add_zero,List.nil_append]at this;rw[this];rfl
theorem II{cl:Qw}(hc:uT cl){o:QK}(ho:o.length=cl.length+1){j n:Nat}(hn:j+n≤cl.length)(c:Wy)(p:1≤c.2.1)(q:c.2.1≤64)(u:o.getD j 0≠3):
  jL cl o (j:Int) ((j+n:Nat):Int) c.1 c.2.1 c.2.2.1 c.2.2.2.1 c.2.2.2.2.1 c.2.2.2.2.2=some (gI (cV (aH cl o j) n c).1 (j:Int),(cV (aH cl o j) n c).2):=by
 unfold jL cV;rw[xL hc ho hn c.1 p q,yZ hc ho hn c p q u];by_cases hm:c.2.2.1=1
 ·have f:(c.2.2.1 == 1)=true:=by simpa using hm
  rw[if_pos f,if_pos hm];cases iP (aH cl o j) n c <;> simp[f]
 ·have f:(c.2.2.1 == 1)=false:=by simpa using hm
  rw[if_neg (by rw[f];decide),if_neg hm];simp[f]
end
end Go.Proofs.YtobbjfkfmdiklaaGreatDoor.T
