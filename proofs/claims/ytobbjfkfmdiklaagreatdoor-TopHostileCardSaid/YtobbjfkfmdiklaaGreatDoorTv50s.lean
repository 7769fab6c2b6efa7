import Derived.Test.YtobbjfkfmdiklaaGreatDoorTvFbm
namespace Go.Proofs.YtobbjfkfmdiklaaGreatDoor.T
open Go Go.Tv Go.Proofs
open Go.IntKind (i64)
noncomputable section
theorem yy{o:QK}{fr:Nat}(q:fr<o.length)(cl:Qk){x:Int}(j:(o.getD fr 0 == 3)=(x == 3))(c:Wy)(e n g:Int)(last:Bool):dS cl o (fr:Int) e n g last c.1 c.2.1 c.2.2.1 c.2.2.2.1 c.2.2.2.2.1 c.2.2.2.2.2=some (iY c x e n g last):=by
 obtain⟨v,b,hp⟩:=GB (o:=[x]) (fr:=0) (by simp) [] e n g last c.1 c.2.1 c.2.2.1 c.2.2.2.1 c.2.2.2.2.1 c.2.2.2.2.2;have f:dS [] [x] 0 e n g last c.1 c.2.1 c.2.2.1 c.2.2.2.1 c.2.2.2.2.1 c.2.2.2.2.2=some (v,b):=hp;unfold iY;rw[f,Option.getD_some,←f];have p:(0≤(fr:Int)∧(fr:Int)<(o.length:Int))=True:=eq_true (by omega);have g2:(0≤(0:Int)∧(0:Int)<(([x]:QK).length:Int))=True:=eq_true (by simp);have g3:([x]:QK).getD (0:Int).toNat 0=x:=rfl;unfold dS;simp only[p,g2,g3,if_true,Int.toNat_natCast,j]
theorem pF(fr:Nat)(b:Int):uq fr b<0↔b<0:=by unfold uq;split <;> omega
theorem DY(fr k:Nat):uq fr ((k:Nat):Int)=((fr+k:Nat):Int):=by unfold uq;rw[if_neg (by omega)];omega
theorem BB{cl:Qk}(hc:zF cl){o:QK}(ho:o.length=cl.length+1){fr n:Nat}(hn:fr+n≤cl.length)(c:Wy)(t0:1≤c.2.1)(t1:c.2.1≤64){a:Nat}(hp:(o.getD (fr+a) 0 == 3)=(oH (aN cl o fr) a == 3)){all:Qq}(a1:all.length=n+1){F:Nat→Int×Int}
  (hF:∀k,a<k→k≤n→(all.getD k (0,0)).1=(F k).1∧(k<n→(all.getD k (0,0)).2=uq fr (F k).2)):∀m k j q full sp A,k+m=n→a≤k →
  iter (eO cl o ((fr+a:Nat):Int) (fr:Int) ((fr+n:Nat):Int) all c.1 c.2.1 c.2.2.1 c.2.2.2.1 c.2.2.2.2.1 c.2.2.2.2.2) (j,uq fr q,fh (aN cl o fr) c.2.1 a (k - a),full,sp,A,((fr+k+1:Nat):Int)) =
   some ((gH (aN cl o fr) n c F a m k j q full sp A).1,uq fr (gH (aN cl o fr) n c F a m k j q full sp A).2)
 | 0,k,j,q,full,sp,A,hk,ha=>by
  have I:¬(((fr+k+1:Nat):Int)≤((fr+n:Nat):Int)):=by omega
  exact cr (by simp only[eO,I,decide_false,Bool.false_eq_true,if_false,gH])
 | m+1,k,j,q,full,sp,A,hk,ha=>by
  have hl:=hc.1;have L:=uH cl o fr c.2.1 a;obtain⟨b0,b1⟩:=sr hc t0 t1 (fr+a) (k - a) (by omega);obtain⟨M,-,-⟩:=uK (c:=cl.getD (fr+k) c0) b0 (by omega) t0 t1 (hc.2 _).1 (hc.2 _).2;have a2:tH (cl.getD (fr+k) c0) (qD cl c.2.1 (fr+a) (k - a)) c.2.1=fh (aN cl o fr) c.2.1 a (k+1 - a):=by rw[←L,show k+1 - a=(k - a)+1 by omega];simp only[qD];rw[show fr+a+(k - a)=fr+k by omega]
  rw[a2,L]at M;obtain⟨Z,-,-⟩:=pw (cl:=cl) o (show fr+k≤fr+k+1 by omega) (by omega) (by omega);have e3:=yR cl (o:=o) (i:=fr+k+1) (by omega);rw[DI cl o fr k]at e3;have I:((fr+k+1:Nat):Int)≤((fr+n:Nat):Int):=by omega
  have q2:i64.wrap (((fr+k+1:Nat):Int) - 1)=((fr+k:Nat):Int):=kP (by omega);have q3:0≤((fr+k:Nat):Int):=by omega
  have q4:((fr+k:Nat):Int)<(cl.length:Int):=by omega
  have q5:i64.wrap (((fr+k+1:Nat):Int)+1)=((fr+(k+1)+1:Nat):Int):=bF (by omega);have q6:i64.wrap (((fr+k+1:Nat):Int) - (fr:Int))=((k+1:Nat):Int):=by rw[wrap_i64 (by omega) (by omega)];omega
  have q7:0≤((k+1:Nat):Int)∧((k+1:Nat):Int)<(all.length:Int):=by omega
  have ht:(((dL cl (fr+k) (fr+k+1):Nat):Int) == ((fr+k+1:Nat):Int)) = !(j5 (aN cl o fr k)):=by
   have hh:qB (cl.getD (fr+k) c0)=j5 (aN cl o fr k):=rfl;have:=(pw (cl:=cl) o (show fr+k≤fr+k by omega) (by omega) (by omega)).2.2;simp only[dL];rw[hh];cases he:j5 (aN cl o fr k)with
   | true =>
    rw[if_pos ⟨by omega,rfl⟩,Bool.not_true,beq_eq_false_iff_ne];omega
   | false =>rw[if_neg (fun x=>by cases x.2)];simp
  have N:(if((cl.getD (fr+k) c0).2.2.2 == 1)=true then some (i64.wrap (sp+1))else some sp)=some (if(aN cl o fr k).2.1=1 then i64.wrap (sp+1)else sp):=by
   show(if((aN cl o fr k).2.1 == 1)=true then some (i64.wrap (sp+1))else some sp)=_;by_cases h:(aN cl o fr k).2.1=1
   ·rw[if_pos h,if_pos (by simpa using h)]
   ·rw[if_neg h,if_neg (by simpa using h)]
  have O:gH (aN cl o fr) n c F a (m+1) k j q full sp A=(
    let s:=if(aN cl o fr k).2.1=1 then i64.wrap (sp+1)else sp
    let f:=if j5 (aN cl o fr k)=true then(full,A)else(fh (aN cl o fr) c.2.1 a (k+1 - a),s)
    if f.1 > c.1 then(j,q)
    else if(aN cl o fr k).2.2=0∨(k+1<n∧(F (k+1)).2<0)then gH (aN cl o fr) n c F a m (k+1) j q f.1 s f.2
    else
     let p:=iY c (oH (aN cl o fr) a) (aN cl o fr k).2.2 (if(aN cl o fr k).2.2=3 then i64.wrap (f.1+1)else f.1) f.2 (k+1 == n)
     if p.2=true∧(q<0∨i64.wrap (p.1+(F (k+1)).1)<j)then gH (aN cl o fr) n c F a m (k+1) (i64.wrap (p.1+(F (k+1)).1)) ((k+1:Nat):Int) f.1 s f.2
     else gH (aN cl o fr) n c F a m (k+1) j q f.1 s f.2):=rfl
  rw[O];clear O;simp only;generalize (if(aN cl o fr k).2.1=1 then i64.wrap (sp+1)else sp)=s at N;have u:(if(((dL cl (fr+k) (fr+k+1):Nat):Int) == ((fr+k+1:Nat):Int))=true then some (fh (aN cl o fr) c.2.1 a (k+1 - a),s)else some (full,A))=some (if j5 (aN cl o fr k)=true then(full,A)else(fh (aN cl o fr) c.2.1 a (k+1 - a),s)):=by rw[ht];cases j5 (aN cl o fr k) <;> rfl
  generalize (if j5 (aN cl o fr k)=true then(full,A)else(fh (aN cl o fr) c.2.1 a (k+1 - a),s))=f at u;obtain⟨B,f2⟩:=f;obtain⟨r1,r2⟩:=hF (k+1) (by omega) (by omega);simp only;have ih:=BB hc ho hn c t0 t1 hp a1 hF m (k+1);by_cases J:B > c.1
  ·rw[if_pos J];refine cr ?_;simp only[eO,I,q2,q3,q4,M,Z,and_self,decide_true,if_true,Option.bind_some,Int.toNat_natCast];rw[N,Option.bind_some,u];simp only[Option.bind_some,J,decide_true,if_true]
  ·rw[if_neg J];have D:(if(!((aN cl o fr k).2.2 != 0))=true then some true else(if decide (((fr+k+1:Nat):Int)<((fr+n:Nat):Int))=true then some (decide ((all.getD (k+1) (0,0)).2<0))else some false))=some (decide ((aN cl o fr k).2.2=0∨(k+1<n∧(F (k+1)).2<0))):=by
    by_cases V:(aN cl o fr k).2.2=0
    ·rw[if_pos (by simp[V]),decide_eq_true (.inl V)]
    ·rw[if_neg (by simp[V])];by_cases g2:k+1<n
     ·rw[if_pos (by rw[decide_eq_true_eq];omega),r2 g2];have:(uq fr (F (k+1)).2<0)=((aN cl o fr k).2.2=0∨k+1<n∧(F (k+1)).2<0):=propext ⟨fun h=> .inr ⟨g2,(pF _ _).1 h⟩,fun h=>(pF _ _).2 (h.elim (fun x=>absurd x V) (fun x=>x.2))⟩;simp only[this]
     ·rw[if_neg (by rw[decide_eq_true_eq];omega),decide_eq_false (fun h=>h.elim V (fun x=>g2 x.1))]
   by_cases v:(aN cl o fr k).2.2=0∨(k+1<n∧(F (k+1)).2<0)
   ·rw[if_pos v,←ih _ _ _ _ _ (by omega) (by omega)];refine dO ?_;simp only[eO,I,q2,q3,q4,M,Z,and_self,decide_true,if_true,Option.bind_some,Int.toNat_natCast];rw[N,Option.bind_some,u];simp only[Option.bind_some,J,decide_false,Bool.false_eq_true,if_false,e3,q6,q7,and_self,if_true,Int.toNat_natCast];rw[D,decide_eq_true v];simp only[Option.bind_some,if_true,q5]
   ·rw[if_neg v];have X:(if((aN cl o fr k).2.2 == 3)=true then some (i64.wrap (B+1))else some B)=some (if(aN cl o fr k).2.2=3 then i64.wrap (B+1)else B):=by
     by_cases g:(aN cl o fr k).2.2=3
     ·rw[if_pos g,if_pos (by simpa using g)]
     ·rw[if_neg g,if_neg (by simpa using g)]
    have E:=yy (o:=o) (fr:=fr+a) (by omega) cl hp c (aN cl o fr k).2.2 (if(aN cl o fr k).2.2=3 then i64.wrap (B+1)else B) f2 (k+1 == n);have z:(((fr+k+1:Nat):Int) == ((fr+n:Nat):Int))=(k+1 == n):=by
     by_cases g:k+1=n
     ·rw[beq_iff_eq.2 g,beq_iff_eq];omega
     ·rw[beq_eq_false_iff_ne.2 g,beq_eq_false_iff_ne];omega
    generalize iY c (oH (aN cl o fr) a) (aN cl o fr k).2.2 (if(aN cl o fr k).2.2=3 then i64.wrap (B+1)else B) f2 (k+1 == n)=p at E;obtain⟨p1,p2⟩:=p;simp only;have Y:(if p2=true then(if decide (uq fr q<0)=true then some true else some (decide (i64.wrap (p1+(F (k+1)).1)<j)))else some false)=some (decide (p2=true∧(q<0∨i64.wrap (p1+(F (k+1)).1)<j))):=by
     cases p2 with
     | false=>simp
     | true =>
      by_cases g:q<0
      ·have:uq fr q<0:=(pF _ _).2 g;simp[this,g]
      ·have:¬uq fr q<0:=fun h=>g ((pF _ _).1 h)
       simp[this,g]
    by_cases C:p2=true∧(q<0∨i64.wrap (p1+(F (k+1)).1)<j)
    ·rw[if_pos C,←ih _ _ _ _ _ (by omega) (by omega),DY];refine dO ?_;simp only[eO,I,q2,q3,q4,M,Z,and_self,decide_true,if_true,Option.bind_some,Int.toNat_natCast];rw[N,Option.bind_some,u];simp only[Option.bind_some,J,decide_false,Bool.false_eq_true,if_false,e3,q6,q7,and_self,if_true,Int.toNat_natCast];rw[D,decide_eq_false v,Option.bind_some,if_neg (by decide),X,Option.bind_some,z,E,Option.bind_some];simp only[r1];rw[Y,decide_eq_true C];simp only[Option.bind_some,if_true,q5];rfl
    ·rw[if_neg C,←ih _ _ _ _ _ (by omega) (by omega)];refine dO ?_;simp only[eO,I,q2,q3,q4,M,Z,and_self,decide_true,if_true,Option.bind_some,Int.toNat_natCast];rw[N,Option.bind_some,u];simp only[Option.bind_some,J,decide_false,Bool.false_eq_true,if_false,e3,q6,q7,and_self,if_true,Int.toNat_natCast];rw[D,decide_eq_false v,Option.bind_some,if_neg (by decide),X,Option.bind_some,z,E,Option.bind_some];simp only[r1];rw[Y,decide_eq_false C];simp only[Option.bind_some,Bool.false_eq_true,if_false,q5]
def IC(d:Dt)(n:Nat)(c:Wy)(f j:Nat)(t:Qq):Prop :=
 t.length=n+1∧∀i,i≤j→(t.getD (n - j+i) (0,0)).1=((dV d n c j).getD i (0,0)).1∧(i<j→(t.getD (n - j+i) (0,0)).2=uq f ((dV d n c j).getD i (0,0)).2)
theorem BF{α:Type}{l:List α}{i k:Nat}{x d:α}(hi:i<l.length):(l.set i x).getD k d=if k=i then x else l.getD k d:=by
 simp only[List.getD_eq_getElem?_getD,List.getElem?_set];by_cases h:i=k
 ·subst h;simp[hi]
 ·rw[if_neg h,if_neg (Ne.symm h)]
theorem set_set{α:Type}(l:List α)(i:Nat)(x y:α):(l.set i x).set i y=l.set i y:=by simp
theorem ET{p:Qk}(hc:zF p){o:QK}(ho:o.length=p.length+1){f n:Nat}(hn:f+n≤p.length)(c:Wy)(t0:1≤c.2.1)(t1:c.2.1≤64)(h3:o.getD f 0≠3)(n0:0<n):
  ∃t,iter (fP p o (f:Int) ((f+n:Nat):Int) c.1 c.2.1 c.2.2.1 c.2.2.2.1 c.2.2.2.2.1 c.2.2.2.2.2) (List.replicate (n+1) (0,0),((f+n - 1:Nat):Int))=some t∧IC (aN p o f) n c f n t:=by
 have hl:=hc.1;refine dP (fun z:Qq×Int=>∃j:Nat,j≤n∧z.2=(f:Int)+(n:Int) - 1 - (j:Int)∧IC (aN p o f) n c f j z.1) (fun z=>(z.2+1 - (f:Int)).toNat) _ ?_
  ⟨0,by omega,by simp only;omega,by simp,fun i hi=>⟨?_,fun h=>by omega⟩⟩
 ·rintro⟨t,v⟩ ⟨j,hj,hv,u,A⟩;simp only at hv;by_cases a1:j<n
  ·left
   obtain⟨a,ha⟩:∃a,n=a+j+1:=⟨n - j - 1,by omega⟩;obtain rfl:v=((f+a:Nat):Int):=by omega
   simp only at u A;have L:((f+a:Nat):Int)≥(f:Int):=by omega
   have X:i64.wrap (((f+a:Nat):Int) - (f:Int))=(a:Int):=by rw[wrap_i64 (by omega) (by omega)];omega
   have M:0≤(a:Int)∧(a:Int)<(t.length:Int):=by omega
   have C:a<t.length:=by omega
   have Y:i64.wrap (((f+a:Nat):Int) - 1)=(f:Int)+(n:Int) - 1 - ((j+1:Nat):Int):=by rw[wrap_i64 (by omega) (by omega)];omega
   have D:(if(((f+a:Nat):Int) == (f:Int))=true then some true else(if 0≤((f+a:Nat):Int)∧((f+a:Nat):Int)<(o.length:Int)then some (o.getD (f+a) 0 != 0)else none))=some (decide (a=0∨oH (aN p o f) a≠0)):=by
    by_cases g:a=0
    ·subst g;simp
    ·have g1:(((f+a:Nat):Int) == (f:Int))=false:=by rw[beq_eq_false_iff_ne];omega
     rw[g1,if_neg (by decide),if_pos (by omega),jQ p o f (by omega)];by_cases g2:oH (aN p o f) a=0 <;> simp[g,g2]
   have E:uf (aN p o f) n c (n - (j+1)) (dV (aN p o f) n c j)=uf (aN p o f) n c a (dV (aN p o f) n c j):=by rw[show n - (j+1)=a by omega]
   have B:∀x:Int×Int,(x.1=(uf (aN p o f) n c a (dV (aN p o f) n c j)).1∧x.2=uq f (uf (aN p o f) n c a (dV (aN p o f) n c j)).2)→IC (aN p o f) n c f (j+1) (t.set a x):=fun x Z=>by
    refine⟨by rw[List.length_set];exact u,fun i hi=>?_⟩;rw[show n - (j+1)+i=a+i by omega,BF C];cases i with
    | zero =>
     rw[if_pos (by omega)];simp only[dV,List.getD_cons_zero,E];exact⟨Z.1,fun _=>Z.2⟩
    | succ i =>rw[if_neg (by omega)];obtain⟨I,J⟩:=A i (by omega);rw[show n - j+i=a+(i+1) by omega]at I J;simp only[dV,List.getD_cons_succ];exact⟨I,fun h=>J (by omega)⟩
   by_cases hb:a=0∨oH (aN p o f) a≠0
   ·have hp:(o.getD (f+a) 0 == 3)=(oH (aN p o f) a == 3):=by
     by_cases g:a=0
     ·subst g;rw[Nat.add_zero,beq_eq_false_iff_ne.2 h3];rfl
     ·rw[jQ p o f (by omega)]
    have q:=BB hc ho hn c t0 t1 hp (all:=t.set a (0,-1)) (F:=fun k=>(dV (aN p o f) n c j).getD (k - a - 1) (0,0)) (by rw[List.length_set];exact u) (fun k k1 k2=>by
     rw[BF C,if_neg (by omega)];obtain⟨I,J⟩:=A (k - a - 1) (by omega);rw[show n - j+(k - a - 1)=k by omega]at I J;exact⟨I,fun h=>J (by omega)⟩) (n - a) a 0 (-1) 0 0 0 (by omega) (Nat.le_refl _)
    rw[Nat.sub_self]at q;simp only[fh]at q;have N:uq f (-1) = -1:=rfl;rw[N]at q;have O:uf (aN p o f) n c a (dV (aN p o f) n c j)=gH (aN p o f) n c (fun k=>(dV (aN p o f) n c j).getD (k - a - 1) (0,0)) a (n - a) a 0 (-1) 0 0 0:=by unfold uf;rw[if_pos hb]
    rw[←O]at q;generalize uf (aN p o f) n c a (dV (aN p o f) n c j)=r at q B;have V:mW p o ((f+a:Nat):Int) (f:Int) ((f+n:Nat):Int) (t.set a (0,-1)) c.1 c.2.1 c.2.2.1 c.2.2.2.1 c.2.2.2.2.1 c.2.2.2.2.2=some (r.1,uq f r.2):=by unfold mW;rw[show i64.wrap (((f+a:Nat):Int)+1)=((f+a+1:Nat):Int)from bF (by omega),q];rfl
    refine⟨(t.set a (r.1,uq f r.2),(f:Int)+(n:Int) - 1 - ((j+1:Nat):Int)),?_,⟨j+1,by omega,rfl,B _ ⟨rfl,rfl⟩⟩,by simp only;omega⟩;simp only[fP,L,X,M,C,and_self,decide_true,if_true,Int.toNat_natCast];rw[D,decide_eq_true hb];simp only[Option.bind_some,if_true,V,List.length_set,M,C,and_self,set_set,Y]
   ·have O:uf (aN p o f) n c a (dV (aN p o f) n c j)=(0,-1):=by unfold uf;rw[if_neg hb]
    refine⟨(t.set a (0,-1),(f:Int)+(n:Int) - 1 - ((j+1:Nat):Int)),?_,⟨j+1,by omega,rfl,B _ (by rw[O];exact⟨rfl,rfl⟩)⟩,by simp only;omega⟩;simp only[fP,L,X,M,C,and_self,decide_true,if_true,Int.toNat_natCast];rw[D,decide_eq_false hb];simp only[Option.bind_some,Bool.false_eq_true,if_false,Y]
  ·right
   obtain rfl:j=n:=by omega
   refine⟨t,?_,u,A⟩;have L:¬(v≥(f:Int)):=by omega
   simp only[fP,L,decide_false,Bool.false_eq_true,if_false]
 ·obtain rfl:i=0:=by omega
  simp[dV]
theorem xS{j:Qk}(hc:zF j){o:QK}(D:o.length=j.length+1){f n:Nat}(hn:f+n≤j.length)(c:Wy)(A:1≤c.2.1)(B:c.2.1≤64){t:Qq}(ht:IC (aN j o f) n c f n t):
  ∀m a out,a≤n→n≤a+m→out.length≤a→(a<n→0≤((dV (aN j o f) n c n).getD a (0,0)).2)→iter (fO j o (f:Int) ((f+n:Nat):Int) c.2.1 t) (out,((f+a:Nat):Int))=some (out++ja (je (aN j o f) n c.2.1 (dV (aN j o f) n c n) m a) (f:Int))
 | 0,a,out,h1,h2,E,C=>by
  obtain rfl:a=n:=by omega
  have p:¬(((f+a:Nat):Int)<((f+a:Nat):Int)):=by omega
  exact cr (by simp only[fO,p,decide_false,Bool.false_eq_true,if_false,je,ja,List.map_nil,List.append_nil])
 | m+1,a,out,h1,h2,E,C=>by
  have hl:=hc.1;obtain⟨v,q⟩:=ht;by_cases ha:a<n
  ·obtain⟨I,J,z⟩:=rK (aN j o f) n c a ha (C ha);have hT:=(q a (by omega)).2 ha;rw[Nat.sub_self,Nat.zero_add]at hT;simp only[je];rw[if_pos ha,show ∀(x:bV) l,ja (x::l) (f:Int)=ja [x] (f:Int)++ja l (f:Int)from fun _ _=>rfl,Dy,←List.append_assoc];generalize ((dV (aN j o f) n c n).getD a (0,0)).2=b at I J z hT;obtain⟨u,rfl⟩:∃u:Nat,b=(u:Int):=⟨b.toNat,by omega⟩;rw[Int.toNat_natCast]at z ⊢;rw[←xS hc D hn c A B ⟨v,q⟩ m u _ (by omega) (by omega) (by simp;omega) (fun h=>z (by omega))];refine dO ?_;rw[DY]at hT;have p:((f+a:Nat):Int)<((f+n:Nat):Int):=by omega
   have L:i64.wrap (((f+a:Nat):Int) - (f:Int))=(a:Int):=by rw[wrap_i64 (by omega) (by omega)];omega
   have M:0≤(a:Int)∧(a:Int)<(t.length:Int):=by omega
   have N:a<t.length:=by omega
   have O:0≤((f+u:Nat):Int)∧((f+u:Nat):Int)<(o.length:Int):=by omega
   simp only[fO,p,L,M,N,hT,O,and_self,decide_true,if_true,Int.toNat_natCast];rw[pC hc o A B (by omega) (by omega),kI j o f c.2.1 (by omega),jQ j o f (by omega)];simp only[Option.bind_some,List.length_singleton];rw[if_pos (by omega)]
  ·obtain rfl:a=n:=by omega
   have p:¬(((f+a:Nat):Int)<((f+a:Nat):Int)):=by omega
   simp only[je];rw[if_neg ha];exact cr (by simp only[fO,p,decide_false,Bool.false_eq_true,if_false,ja,List.map_nil,List.append_nil])
theorem yT{p:Qk}(hc:zF p){o:QK}(u:o.length=p.length+1){j n:Nat}(hn:j+n≤p.length)(c:Wy)(v:1≤c.2.1)(z:c.2.1≤64)(B:o.getD j 0≠3):
  lE p o (j:Int) ((j+n:Nat):Int) c.1 c.2.1 c.2.2.1 c.2.2.2.1 c.2.2.2.2.1 c.2.2.2.2.2=some (match pV (aN p o j) n c with | some l=>(ja l (j:Int),true) | none=>([],false)):=by
 have hl:=hc.1;unfold lE pV;by_cases A:n=0
 ·subst A;rw[if_pos (by rw[decide_eq_true_eq];omega),if_pos rfl];rfl
 ·have C:i64.wrap (i64.wrap (((j+n:Nat):Int) - (j:Int))+1)=((n+1:Nat):Int):=by rw[wrap_i64 (x:=((j+n:Nat):Int) - (j:Int)) (by omega) (by omega),wrap_i64 (by omega) (by omega)];omega
  have D:i64.wrap (((j+n:Nat):Int) - 1)=((j+n - 1:Nat):Int):=by rw[wrap_i64 (by omega) (by omega)];omega
  obtain⟨t,E,ht⟩:=ET hc u hn c v z B (by omega);have q:=(ht.2 0 (by omega)).2 (by omega);rw[Nat.sub_self]at q;rw[if_neg (by rw[decide_eq_true_eq];omega),if_neg A,C,D,if_pos (by omega),Int.toNat_natCast,E,Option.bind_some];have I:=ht.1;rw[if_pos (by omega),if_pos (by show 0<t.length;omega)];rw[show(0:Int).toNat=0 from rfl,q];by_cases f:((dV (aN p o j) n c n).getD 0 (0,0)).2<0
  ·rw[if_pos (by rw[decide_eq_true_eq];exact(pF _ _).2 f),if_pos f]
  ·rw[if_neg (by rw[decide_eq_true_eq];exact fun h=>f ((pF _ _).1 h)),if_neg f];have:=xS hc u hn c v z ht n 0 [] (by omega) (by omega) (by simp) (fun _=>by omega);rw[Nat.add_zero,List.nil_append]at this;rw[this];rfl
theorem Ik{p:Qk}(hc:zF p){o:QK}(q:o.length=p.length+1){j n:Nat}(hn:j+n≤p.length)(c:Wy)(u:1≤c.2.1)(v:c.2.1≤64)(x:o.getD j 0≠3):
  jm p o (j:Int) ((j+n:Nat):Int) c.1 c.2.1 c.2.2.1 c.2.2.2.1 c.2.2.2.2.1 c.2.2.2.2.2=some (ja (gI (aN p o j) n c).1 (j:Int),(gI (aN p o j) n c).2):=by
 unfold jm gI;rw[wY hc q hn c.1 u v,yT hc q hn c u v x];by_cases hm:c.2.2.1=1
 ·have f:(c.2.2.1 == 1)=true:=by simpa using hm
  rw[if_pos f,if_pos hm];cases pV (aN p o j) n c <;> simp[f]
 ·have f:(c.2.2.1 == 1)=false:=by simpa using hm
  rw[if_neg (by rw[f];decide),if_neg hm];simp[f]
end
end Go.Proofs.YtobbjfkfmdiklaaGreatDoor.T
