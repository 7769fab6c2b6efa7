import Derived.Test.YtobbjfkfmdiklaaGreatDoorTv50hbm
import Derived.Test.YtobbjfkfmdiklaaGreatDoorTv50hdm
import Derived.Test.YtobbjfkfmdiklaaGreatDoorTv50bm
import Derived.Test.YtobbjfkfmdiklaaGreatDoorTv50gfm
import Derived.Test.YtobbjfkfmdiklaaGreatDoorTvT50aTopLeastm
import Derived.Test.YtobbjfkfmdiklaaGreatDoorTvUm
namespace Go.Proofs.YtobbjfkfmdiklaaGreatDoor.T
open Go Go.Tv Go.Proofs
noncomputable section
theorem HV(cl:Qw){A T k:Nat}(h:A+k<T):((cl.take T).drop A).getD k c0=cl.getD (A+k) c0:=by
 rw[List.getD_eq_getElem?_getD,List.getElem?_drop,List.getElem?_take,if_pos h,←List.getD_eq_getElem?_getD]
theorem IU{cl:Qw}(hl:cl.length≤4096)(o:QK){f a b:Nat}(h1:a≤b)(h2:f+b≤cl.length):nf cl o ((f+a:Nat):Int) ((f+b:Nat):Int)=some (Fo (aH cl o f) a b):=by
 obtain⟨p,-,-⟩:=pT (cl:=cl) o (show f+a≤f+b by omega) h2 (by omega);rw[vl cl o f a b h1]at p;obtain⟨z,B⟩:=kd (aH cl o f) a b h1;unfold nf Fo;rw[p,Option.bind_some];generalize gR (aH cl o f) a b=t at z B;have j:((cl.take (f+t)).drop (f+a)).length=t - a:=by rw[List.length_drop,List.length_take];omega
 have C:iter (gQ cl ((f+a:Nat):Int) ((f+t:Nat):Int)) ((B0 (aH cl o f) a 0:Int),((0:Nat):Int))=some (B0 (aH cl o f) a (t - a):Int):=by
  refine jz (fun k=>((B0 (aH cl o f) a k:Int),((k:Nat):Int))) (t - a) (fun k hk=>?_) ?_
  ·have q:(k:Int)<((((cl.take (f+t)).drop (f+a)).length:Nat):Int):=by rw[j];omega
   have u:0≤(k:Int):=by omega
   have E:=CQ (aH cl o f) a k;have v:=HV cl (A:=f+a) (T:=f+t) (k:=k) (by omega);have D:(aH cl o f (a+k)).2.1=(cl.getD (f+a+k) c0).2.2.2:=by simp only[aH];rw[←Nat.add_assoc]
   simp only[B0];rw[D];by_cases e:(cl.getD (f+a+k) c0).2.2.2=1
   ·have p:IntKind.i64.wrap ((B0 (aH cl o f) a k:Int)+1)=((B0 (aH cl o f) a k+1:Nat):Int):=bD (by omega);simp only[gQ,Int.toNat_natCast,q,u,v,p,BEq.rfl,and_self,decide_true,if_true,Option.bind_some,bD (show k≤9000000000000000000 by omega),e]
   ·have p:((cl.getD (f+a+k) c0).2.2.2 == 1)=false:=by rw[beq_eq_false_iff_ne];exact e
    simp only[gQ,Int.toNat_natCast,q,u,v,p,and_self,decide_true,if_true,Bool.false_eq_true,if_false,Option.bind_some,bD (show k≤9000000000000000000 by omega),e]
  ·have q:¬(((t - a:Nat):Int)<((((cl.take (f+t)).drop (f+a)).length:Nat):Int)):=by rw[j];omega
   simp only[gQ,Int.toNat_natCast,q,decide_false,Bool.false_eq_true,if_false]
 rw[if_pos (by omega)];exact congrArg (fun x=>Option.bind x fun o=>some o) C
theorem F6{cl:Qw}(hc:uT cl)(o:QK){f:Int}(u:1≤f)(v:f≤64){p j:Nat}(h1:p≤j)(h2:j≤cl.length)(e:Int):iy cl o (p:Int) (j:Int) e f=some (qt cl f p j e):=by
 have h:=nB hc o u v h1 h2 e;unfold gL at h;cases q:iy cl o (p:Int) (j:Int) e f with
 | none=>rw[q]at h;cases h
 | some r =>
  rw[q,Option.bind_some]at h;have:=congrArg (fun x:Option bK=>(x.getD c0).2.2.1) h;exact congrArg some this
theorem DX{cl:Qw}(hc:uT cl){o:QK}(ho:o.length=cl.length+1){fr a b:Nat}(j:a<b)(hb:fr+b≤cl.length){c:Wy}(w:vP c)(hp:(o.getD (fr+a) 0 == 3)=(ll (aH cl o fr) a == 3))(last:Bool):
  jB cl o ((fr+a:Nat):Int) ((fr+b:Nat):Int) last c.1 c.2.1 c.2.2.1 c.2.2.2.1 c.2.2.2.2.1 c.2.2.2.2.2=some (if ll (aH cl o fr) b=0 then(0,false)else fZ c (ll (aH cl o fr) a) (ll (aH cl o fr) b) (kx (aH cl o fr) c.2.1 a b (ll (aH cl o fr) b)) (Fo (aH cl o fr) a b) last):=by
 have hl:=hc.1;unfold jB;rw[uW cl (i:=fr+b) (by omega),jn cl o fr (by omega)];simp only[Option.bind_some];by_cases f:ll (aH cl o fr) b=0
 ·rw[if_pos f,f];rfl
 ·have p:(ll (aH cl o fr) b != 0)=true:=by simpa using f
  have q:¬(((fr+b:Nat):Int)≤((fr+a:Nat):Int)):=by omega
  rw[if_neg f];simp only[p,q,Bool.not_true,Bool.false_eq_true,if_false,decide_false,Option.bind_some];rw[F6 hc o w.1 w.2 (by omega) hb,IU hl o (by omega) hb,lh cl o fr c.2.1 (by omega)];simp only[Option.bind_some];rw[yu (by omega) cl hp c];rfl
def pC(cl:Qw)(o:QK)(c:Wy)(x:bK):Int×Bool:=(jB cl o x.1 x.2.1 (o.getD x.2.1.toNat 0 == 2) c.1 c.2.1 c.2.2.1 c.2.2.2.1 c.2.2.2.2.1 c.2.2.2.2.2).getD (0,false)
theorem Gu{cl:Qw}(hc:uT cl){o:QK}(ho:o.length=cl.length+1)(j:o.getD 0 0≠3){c:Wy}(w:vP c)(f:xy c){x:bK}(p:Rg cl.length x):
  jB cl o x.1 x.2.1 (o.getD x.2.1.toNat 0 == 2) c.1 c.2.1 c.2.2.1 c.2.2.2.1 c.2.2.2.2.1 c.2.2.2.2.2=some (pC cl o c x)∧0≤(pC cl o c x).1∧(pC cl o c x).1≤1000000000∧0≤x.2.1∧x.2.1<(o.length:Int):=by
 obtain⟨a,b,q,u,h1,h2⟩:=p;have hp:(o.getD (0+a) 0 == 3)=(ll (aH cl o 0) a == 3):=by
  cases a with
  | zero=>rw[beq_eq_false_iff_ne.2 (show o.getD (0+0) 0≠3 from j)];rfl
  | succ a=>rw[jn cl o 0 (by omega)]
 have e:=DX hc ho h1 (fr:=0) (by omega) w hp (o.getD x.2.1.toNat 0 == 2);rw[Nat.zero_add,Nat.zero_add,←q,←u]at e;unfold pC;rw[e];refine⟨rfl,?_,?_,by omega,by omega⟩
 ·simp only[Option.getD_some];split
  ·exact Int.le_refl _
  ·exact(sN f _ _ _ _ _).1
 ·simp only[Option.getD_some];split
  ·exact(by decide:(0:Int)≤1000000000)
  ·exact(sN f _ _ _ _ _).2
def pY(cl:Qw)(o:QK)(c:Wy):Qw→Int
 | []=>0
 | x::r=>(pC cl o c x).1+pY cl o c r
def jo(cl:Qw)(o:QK)(c:Wy):Qw→Bool
 | []=>true
 | x::r=>(pC cl o c x).2 && jo cl o c r
theorem vK(cl:Qw)(o:QK)(c:Wy)(k:Qw):∀l:Qw,pY cl o c (l++k)=pY cl o c l+pY cl o c k
 | []=>by simp[pY]
 | x::l=>by simp only[List.cons_append,pY,vK cl o c k l];omega
theorem wX(cl:Qw)(o:QK)(c:Wy)(k:Qw):∀l:Qw,jo cl o c (l++k)=(jo cl o c l && jo cl o c k)
 | []=>by simp[jo]
 | x::l=>by simp only[List.cons_append,jo,wX cl o c k l,Bool.and_assoc]
theorem rU{cl:Qw}(hc:uT cl){o:QK}(ho:o.length=cl.length+1)(D:o.getD 0 0≠3){c:Wy}(w:vP c)(E:xy c){l:Qw}(hl:l.length≤4096)(q:∀x∈l,Rg cl.length x):
  jJ cl o l c.1 c.2.1 c.2.2.1 c.2.2.2.1 c.2.2.2.2.1 c.2.2.2.2.2=some (if jo cl o c l=true then(pY cl o c l,true)else(0,false)):=by
 have key:∀(r pre:Qw) (s:Int),(pre++r).length≤4096→(∀x∈r,Rg cl.length x)→0≤s→s≤1000000000*(pre.length:Int) →
   iter (fY cl o (pre++r) c.1 c.2.1 c.2.2.1 c.2.2.2.1 c.2.2.2.2.1 c.2.2.2.2.2) (s,(pre.length:Int))=some (if jo cl o c r=true then .inl (s+pY cl o c r)else .inr (0,false)):=fun r=>by
  induction r with
  | nil =>
   intro pre s _ _ _ _;have u:¬((pre.length:Int)<(pre.length:Int)):=Int.lt_irrefl _;rw[List.append_nil];exact cR (by simp only[fY,u,decide_false,Bool.false_eq_true,if_false,jo,pY,if_true,Int.add_zero])
  | cons x r I =>
   intro pre s f q M N;obtain⟨z,O,V,A,B⟩:=Gu hc ho D w E (q x (List.mem_cons_self ..));have v:pre.length+(r.length+1)≤4096:=by simpa using f
   have u:(pre.length:Int)<((pre++x::r).length:Int):=by simp;omega
   have C:0≤(pre.length:Int):=by omega
   by_cases hk:(pC cl o c x).2=true
   ·have j:=I (pre++[x]) (s+(pC cl o c x).1) (by simpa using f) (fun y J=>q y (List.mem_cons_of_mem _ J)) (by omega) (by simp only[List.length_append,List.length_singleton];omega);rw[List.append_assoc]at j;simp only[List.singleton_append,List.length_append,List.length_singleton]at j;simp only[jo,pY,hk,Bool.true_and];rw[←Int.add_assoc,←j];refine fm ?_;simp only[fY,u,C,and_self,decide_true,if_true,Int.toNat_natCast,wh,A,B,z,Option.bind_some,hk,Bool.not_true,Bool.false_eq_true,if_false];rw[wrap_i64 (by omega) (by omega),show IntKind.i64.wrap ((pre.length:Int)+1)=((pre.length+1:Nat):Int)from bD (by omega)]
   ·have p:(pC cl o c x).2=false:=by simpa using hk
    simp only[jo,p,Bool.false_and,Bool.false_eq_true,if_false];refine cR ?_;simp only[fY,u,C,and_self,decide_true,if_true,Int.toNat_natCast,wh,A,B,z,Option.bind_some,p,Bool.not_false]
 have:=key l [] 0 (by simpa using hl) q (by omega) (by simp);simp only[List.nil_append,List.length_nil,Int.zero_add]at this;have L:((0:Nat):Int)=0:=rfl;rw[L]at this;unfold jJ;rw[this];by_cases ha:jo cl o c l=true
 ·rw[if_pos ha,if_pos ha];rfl
 ·rw[if_neg ha,if_neg ha];rfl
def rS:Nat→Qw→Nat→Prop
 | a,[],b=>a=b
 | a,x::r,b=>∃m:Nat,x.1=(a:Int)∧x.2.1=(m:Int)∧a<m∧rS m r b
theorem rS.of:∀ {a b:Nat} {l:Qw},CD a l b→(∀x∈l,x.1<x.2.1)→rS a l b
 | _,_,[],h,_=>h
 | a,b,x::r,⟨m,f,j,u,p⟩,h=>⟨m,f,j,by have:=h x (List.mem_cons_self ..);omega,rS.of p fun y q=>h y (List.mem_cons_of_mem _ q)⟩
theorem rS.le:∀ {a b:Nat} {l:Qw},rS a l b→a+l.length≤b
 | _,_,[],h=>by cases h;simp
 | a,b,x::r,⟨m,j,p,q,f⟩=>by have:=f.le;simp only[List.length_cons];omega
theorem rS.snoc{x:bK}{b c:Nat}(h1:x.1=(b:Int))(h2:x.2.1=(c:Int))(f:b<c):∀ {a:Nat} {l:Qw},rS a l b→rS a (l++[x]) c
 | a,[],h=>by cases h;exact⟨c,h1,h2,f,rfl⟩
 | a,y::r,⟨m,j,p,q,u⟩=>⟨m,j,p,q,u.snoc h1 h2 f⟩
theorem rS.rg{M:Nat}:∀ {a b:Nat} {l:Qw},rS a l b→b≤M→∀x∈l,Rg M x
 | _,_,[],_,_,x,h=>by cases h
 | a,b,y::r,⟨m,j,p,q,f⟩,hb,x,h=>by
  rcases List.mem_cons.1 h with e | e
  ·rw[e];have:=f.le;exact⟨a,m,j,p,q,by omega⟩
  ·exact f.rg hb x e
def Lq(o:QK)(l:Qw):Prop:=∀x∈l,∀j:Nat,x.1<(j:Int)→(j:Int)<x.2.1→o.getD j 0≠2
theorem rS.split{o:QK}{k:Nat}(hk:o.getD k 0=2):∀ {l:Qw} {a b:Nat},rS a l b→a≤k→k≤b→Lq o l→∃q z,l=q++z∧rS a q k∧rS k z b
 | [],a,b,h,h1,h2,_=>by
  simp only[rS]at h;exact⟨[],[],rfl,by simp only[rS];omega,by simp only[rS];omega⟩
 | x::r,a,b,⟨m,B,C,D,E⟩,h1,h2,hn=>by
  by_cases e:k=a
  ·subst e;exact⟨[],x::r,rfl,rfl,m,B,C,D,E⟩
  ·by_cases hm:k<m
   ·exact absurd hk (hn x (List.mem_cons_self ..) k (by omega) (by omega))
   ·obtain⟨q,z,I,e2,J⟩:=E.split hk (by omega) h2 fun y L=>hn y (List.mem_cons_of_mem _ L)
    exact⟨x::q,z,by rw[I];rfl,⟨m,B,C,D,e2⟩,J⟩
section
variable{cl:Qw}(hc:uT cl){o:QK}(ho:o.length=cl.length+1){c:Wy}(w:vP c)
include hc ho w
theorem A5{fr n:Nat}(hn:fr+n≤cl.length)(q:o.getD fr 0≠3)(hi:∀j,0<j→j<n→o.getD (fr+j) 0≠2)(u:o.getD (fr+n) 0=2):∀ {l:Qw} {a:Nat},a≤n→rS (fr+a) l (fr+n) →
  (jo cl o c l=true↔zY (aH cl o fr) n c a (l.map fun x=>x.2.1.toNat - fr))∧pY cl o c l=xC (aH cl o fr) n c a (l.map fun x=>x.2.1.toNat - fr)
 | [],a,ha,h=>by
  simp only[rS]at h;refine⟨⟨fun _=>by simp only[List.map_nil,zY];omega,fun _=>rfl⟩,rfl⟩
 | x::r,a,ha,⟨m,A,v,I,z⟩=>by
  have hm:=z.le;obtain⟨b,rfl⟩:∃b,m=fr+b:=⟨m - fr,by omega⟩;have p:a<b:=by omega
  have hb:b≤n:=by omega
  obtain⟨B,C⟩:=A5 hn q hi u hb z;have hp:(o.getD (fr+a) 0 == 3)=(ll (aH cl o fr) a == 3):=by
   by_cases e:a=0
   ·subst e;rw[Nat.add_zero,beq_eq_false_iff_ne.2 q];rfl
   ·rw[jn cl o fr (by omega)]
  have f:(o.getD (fr+b) 0 == 2)=(b == n):=by
   by_cases e:b=n
   ·rw[e,u,beq_iff_eq.2 (rfl:n=n)];rfl
   ·rw[beq_eq_false_iff_ne.2 e,beq_eq_false_iff_ne.2 (hi b (by omega) (by omega))]
  have D:pC cl o c x=Aj (aH cl o fr) n c a b:=by unfold pC Aj;rw[A,v,Int.toNat_natCast,f,DX hc ho p (by omega) w hp (b == n)];rfl
  have E:x.2.1.toNat - fr=b:=by rw[v,Int.toNat_natCast];omega
  simp only[jo,pY,List.map_cons,E,D,Bool.and_eq_true,zY,xC];rw[C,B];exact⟨⟨fun h=>⟨p,hb,h.1,h.2⟩,fun h=>⟨h.2.2.1,h.2.2.2⟩⟩,rfl⟩
theorem sU(L:xy c)(p:c.2.2.1=1)(N:o.getD cl.length 0=2):∀m k fr,k+m=cl.length+1→fr<k→(∀j,fr<j→j<k→o.getD j 0≠2)→o.getD fr 0≠3→∀W:Qw,rS fr W cl.length→Lq o W →
  ((eZ cl o c fr (ga o m k)).2=false→jo cl o c (eZ cl o c fr (ga o m k)).1=true∧(jo cl o c W=true→pY cl o c (eZ cl o c fr (ga o m k)).1≤pY cl o c W)) ∧
  ((eZ cl o c fr (ga o m k)).2=true→jo cl o c (eZ cl o c fr (ga o m k)).1=false∧jo cl o c W=false)
 | 0,k,fr,hk,h0,h1,_,W,M,_=>by
  obtain rfl:fr=cl.length:=by
   rcases Nat.lt_or_ge fr cl.length with q | q
   ·exact absurd N (h1 _ q (by omega))
   ·omega
  have:=M.le;obtain rfl:W=[]:=List.length_eq_zero_iff.1 (by omega);exact⟨fun _=>⟨rfl,fun _=>Int.le_refl _⟩,fun h=>(by cases h)⟩
 | m+1,k,fr,hk,h0,h1,h3,W,M,z=>by
  have hl:=hc.1;simp only[ga];by_cases e:o.getD k 0=2
  ·rw[if_pos e];simp only[eZ,Int.toNat_natCast];obtain⟨O,W2,rfl,V,X⟩:=M.split e (by omega) (by omega) z;obtain⟨Y,Z⟩:=sU L p N m (k+1) k (by omega) (by omega) (fun j q1 q2=>by omega) (by rw[e];decide) W2 X fun x hx=>z x (List.mem_append_right _ hx)
   generalize eZ cl o c k (ga o m (k+1))=R at Y Z;obtain⟨n,rfl⟩:∃n,k=fr+n:=⟨k - fr,by omega⟩;rw[Nat.add_sub_cancel_left];have pl:=fun {l:Qw} (h:rS (fr+0) l (fr+n))=>A5 hc ho w (fr:=fr) (n:=n) (by omega) h3 (fun j q1 q2=>h1 _ (by omega) (by omega)) e (Nat.zero_le n) h
   have B:=IS hc o w (fr:=fr) (n:=n) (by omega);have C:=IW hc o w (fr:=fr) (n:=n) (by omega);obtain⟨b1,b2⟩:=wQ (d:=aH cl o fr) (n:=n) (by omega) L B C (by omega);have a3:=Bs (d:=aH cl o fr) (n:=n) (by omega) L B C;have a4:=GH (aH cl o fr) n c;have D:=CA (aH cl o fr) n c;have a5:rS (fr+0) (gI (cV (aH cl o fr) n c).1 (fr:Int)) (fr+n):=rS.of (a4.Nk fr) fun x hx=>by obtain⟨y,hy,rfl⟩:=List.mem_map.1 hx;obtain⟨u,v,y1,y2,y3,-⟩:=D y hy;simp only;omega
   have A:(gI (cV (aH cl o fr) n c).1 (fr:Int)).map (fun x=>x.2.1.toNat - fr)=(cV (aH cl o fr) n c).1.map fun x=>x.2.1.toNat:=by
    unfold gI;rw[List.map_map];refine List.map_congr_left fun y hy=>?_
    obtain⟨u,v,y1,y2,y3,-⟩:=D y hy;simp only[Function.comp];omega
   obtain⟨p1,p2⟩:=pl a5;rw[A]at p1 p2;obtain⟨w1,w2⟩:=pl (show rS (fr+0) O (fr+n)from V);rw[wX,wX,vK,vK];by_cases hb:(cV (aH cl o fr) n c).2=true
   ·rw[hb];obtain⟨-,-,E⟩:=a3.1 hb;have a1:jo cl o c (gI (cV (aH cl o fr) n c).1 (fr:Int))=false:=by
     cases q:jo cl o c (gI (cV (aH cl o fr) n c).1 (fr:Int))with
     | false=>rfl
     | true=>exact absurd (p1.1 q) (E _)
    have a2:jo cl o c O=false:=by
     cases q:jo cl o c O with
     | false=>rfl
     | true=>exact absurd (w1.1 q) (E _)
    rw[a1,a2];exact⟨fun h=>(by simp at h),fun _=>⟨rfl,rfl⟩⟩
   ·have f:(cV (aH cl o fr) n c).2=false:=by simpa using hb
    obtain⟨l,I,J⟩:∃l,iP (aH cl o fr) n c=some l∧(cV (aH cl o fr) n c).1=l:=by
     unfold cV at f ⊢;rw[if_pos p]at f ⊢;cases a6:iP (aH cl o fr) n c with
     | none=>rw[a6]at f;cases f
     | some l=>exact⟨l,rfl,rfl⟩
    have a1:jo cl o c (gI (cV (aH cl o fr) n c).1 (fr:Int))=true:=p1.2 (by rw[J];exact b2 I);rw[f,a1,Bool.false_or,Bool.true_and];refine⟨fun h=>⟨(Y h).1,fun hw=>?_⟩,fun h=>⟨(Z h).1,by rw[(Z h).2,Bool.and_false]⟩⟩;rw[Bool.and_eq_true]at hw;obtain⟨l',f1,-,f3⟩:=b1 (w1.1 hw.1);rw[I]at f1;cases f1;rw[←J,←p2,←w2]at f3;have:=(Y h).2 hw.2;omega
  ·rw[if_neg e];exact sU L p N m (k+1) fr (by omega) (by omega) (fun j q1 q2=>by
    by_cases ej:j=k
    ·rw[ej];exact e
    ·exact h1 j q1 (by omega)) h3 W M z
end
theorem HF{n:Int}{p:Qw×QK}(h:PM n p)(hc:uT p.1){c:Wy}(w:vP c)(z:xy c)(f:c.2.2.1=1){W:Qw}(x:rS 0 W p.1.length)(q:Lq p.2 W):
  ((LF p.1 p.2 c).2=false→jo p.1 p.2 c (LF p.1 p.2 c).1=true∧(jo p.1 p.2 c W=true→pY p.1 p.2 c (LF p.1 p.2 c).1≤pY p.1 p.2 c W))∧((LF p.1 p.2 c).2=true→jo p.1 p.2 c (LF p.1 p.2 c).1=false∧jo p.1 p.2 c W=false):=by
 have hl:=h.Hp.len;have u:=h.Hp.last;unfold LF;rw[rF,hl];by_cases A:0<p.1.length
 ·have hz:=h.Hp.zero A;simp only[ga];rw[if_neg (by rw[hz];decide)];exact sU hc hl w z f u _ 1 0 (by omega) (by omega) (fun j C D=>by omega) h.zero W x q
 ·have B:p.1.length=0:=by omega
  have:=x.le;obtain rfl:W=[]:=List.length_eq_zero_iff.1 (by omega);rw[B]at u ⊢;simp only[ga];rw[if_pos u];have v:cV (aH p.1 p.2 0) ((((0:Nat):Int)).toNat - 0) c=([],false):=by show cV (aH p.1 p.2 0) 0 c=([],false);unfold cV iP;rw[if_pos f,if_pos rfl]
  simp only[eZ,v];exact⟨fun _=>⟨rfl,fun _=>Int.le_refl _⟩,fun h=>(by cases h)⟩
theorem Db:fg=some ([],ka,mg,[],H4,G1,[],2,2):=rfl
theorem Fm{b f:Option Z1}(h:∀x,aZ b x=aZ f x)(x:QK)(j p q u v:Int)(z:QJ):dO b x j p q u v z=dO f x j p q u v z:=by
 unfold dO;rw[h]
theorem Iu:eT=some true:=by
 obtain⟨b,e,hb⟩:=Li;unfold eT;rw[Db];simp only[Option.bind,e,Fm hb];kernel_rfl
theorem KU{p:Qw×QK}{n:Int}(v:PM n p)(hc:uT p.1){c:Wy}(w:vP c)(E:Int):∃W,iter (bz E c p) (([]:Qw),0,1)=some W∧rS 0 W p.1.length∧Lq p.2 W:=by
 obtain⟨cl,o⟩:=p
 replace hc:uT cl:=hc
 have hl:cl.length≤4096:=hc.1;have ho:o.length=cl.length+1:=v.Hp.len;have Y:o.getD cl.length 0=2:=v.Hp.last;show ∃W,iter (bz E c (cl,o)) (([]:Qw),0,1)=some W∧rS 0 W cl.length∧Lq o W;refine dh (body:=bz E c (cl,o)) (fun z:Qw×Int×Int=>∃k fr:Nat,z.2.2=((k+1:Nat):Int)∧z.2.1=(fr:Int)∧fr≤k∧k≤cl.length∧rS 0 z.1 fr∧Lq o z.1∧∀j,fr<j→j≤k→o.getD j 0≠2) (fun z=>cl.length+1 - z.2.2.toNat) _ ?_
  ⟨0,0,rfl,rfl,Nat.le_refl _,by omega,rfl,(fun x f=>by cases f),fun j A q2=>by omega⟩
 rintro⟨out,v11,Z⟩ ⟨k,fr,rfl,rfl,h1,h2,C,I,J⟩;simp only at C I;by_cases a1:k<cl.length
 ·left
  have A:((k+1:Nat):Int)≤(cl.length:Int):=by omega
  have N:=uW cl (o:=o) (i:=k+1) (by omega);have L:=nB hc o w.1 w.2 (fr:=fr) (to:=k+1) (by omega) (by omega) (o.getD (k+1) 0);have a2:=C.le;have O:Int.tmod ((k+1:Nat):Int) 64=((k+1:Nat):Int) % 64:=Int.tmod_eq_emod_of_nonneg (by omega);obtain⟨B,hB,M⟩:∃B,(if(o.getD (k+1) 0 == 2)=true then some true
    else(if(o.getD (k+1) 0 != 0)=true then(if ¬(64:Int)=0 then(if 0≤(Int.tmod ((k+1:Nat):Int) 64)then some (((bitsOf .and .u64 (Int.fdiv E (2 ^ (min (Int.tmod ((k+1:Nat):Int) 64).toNat IntKind.u64.bits))) (1:Int)) == 1))else none)else none)
    else some false))=some B∧(o.getD (k+1) 0=2→B=true):=by
   by_cases e:o.getD (k+1) 0=2
   ·exact⟨true,by rw[if_pos (by simpa using e)],fun _=>rfl⟩
   ·rw[if_neg (by simpa using e)];by_cases V:(o.getD (k+1) 0 != 0)=true
    ·rw[if_pos V,if_pos (by decide),if_pos (by omega)];exact⟨_,rfl,fun q=>absurd q e⟩
    ·rw[if_neg V];exact⟨_,rfl,fun q=>absurd q e⟩
  have X:IntKind.i64.wrap (((k+1:Nat):Int)+1)=((k+1+1:Nat):Int):=bD (by omega);cases B with
  | true =>
   refine⟨(out++[((fr:Int),(((k+1:Nat):Int),(qt cl c.2.1 fr (k+1) (o.getD (k+1) 0),o.getD (k+1) 0)))],((k+1:Nat):Int),((k+1+1:Nat):Int)),?_,⟨k+1,k+1,rfl,rfl,Nat.le_refl _,by omega,C.snoc rfl rfl (by omega),fun x f j u D=>?_,fun j u D=>by omega⟩,by simp only[Int.toNat_natCast];omega⟩
   ·simp only[bz,A,decide_true,if_true,N,Option.bind_some];rw[hB];simp only[Option.bind_some,if_true,L,List.length_singleton];rw[if_pos (by omega)];simp only[Option.bind_some,X]
   ·rcases List.mem_append.1 f with f | f
    ·exact I x f j u D
    ·rw[List.mem_singleton.1 f]at u D;simp only at u D;exact J j (by omega) (by omega)
  | false =>
   refine⟨(out,(fr:Int),((k+1+1:Nat):Int)),?_,⟨k+1,fr,rfl,rfl,by omega,by omega,C,I,fun j u D=>?_⟩,by simp only[Int.toNat_natCast];omega⟩
   ·simp only[bz,A,decide_true,if_true,N,Option.bind_some];rw[hB];simp only[Option.bind_some,Bool.false_eq_true,if_false,X]
   ·by_cases ej:j=k+1
    ·rw[ej];exact fun q=>by cases M q
    ·exact J j u (by omega)
 ·right
  obtain rfl:k=cl.length:=by omega
  obtain rfl:fr=cl.length:=by
   rcases Nat.lt_or_ge fr cl.length with q | q
   ·exact absurd Y (J _ q (Nat.le_refl _))
   ·omega
  refine⟨out,?_,C,I⟩;have A:¬(((cl.length+1:Nat):Int)≤(cl.length:Int)):=by omega
  simp only[bz,A,decide_false,Bool.false_eq_true,if_false]
theorem K5{O V X:Int}{Y:QK}{Z:List sL}{d6 d7 d8:Int}{d9:QK}{j:List sL}{p q u v:QK}{x z B C D E I:Int}(J:QJ)(hd:Ho (cK O V X Y Z d6 d7 d8 d9 j p q u v x z) (fun _=>True))
  (h1:0≤B∧B≤255) (h2:0≤C∧C≤255) (h3:0≤D∧D≤255) (h4:0≤E∧E≤65535) (h5:0≤I∧I≤65535) {A:QK} (hx:∀i,0≤A.getD i 0∧A.getD i 0≤255) (L:A.length≤10000000) :
  ∃b t f,ib O V X Y Z d6 d7 d8 d9 j p q u v x z B C D E I J A=some (b,(1+B,1+C % 64,D % 2,E,I,J),t,f)∧(f=true→RB b∧Bytes t∧t.length≤4096):=by
 obtain⟨d,e,_⟩:=hd;obtain⟨⟨b,k⟩,eb,M⟩:=CL d.1 d.2.1 d.2.2.1 d.2.2.2.1 d.2.2.2.2.1 d.2.2.2.2.2.1 d.2.2.2.2.2.2.1 d.2.2.2.2.2.2.2.1 d.2.2.2.2.2.2.2.2;obtain⟨t,et,tb,tl⟩:=G0 L hx;have ec:=(yD J h1 h2 h3 h4 h5).1;unfold ib;rw[e];simp only[Option.bind_some];rw[eb];simp only[Option.bind_some];rw[ec,et];simp only[Option.bind_some,KN];by_cases hk:(k.1 == 0)=true
 ·refine⟨b,t,decide ((A.length:Int)≤60),by rw[if_pos hk];rfl,fun N=>?_⟩;have rb:RB b:=(M.resolve_right fun h=>h.1 (by simpa using hk)).2;have:=of_decide_eq_true N;exact⟨rb,tb,by omega⟩
 ·exact⟨b,t,false,by rw[if_neg hk];rfl,fun N=>by cases N⟩
theorem KF{p q f j m:Int}{l:QJ}(u:0≤f∧f≤65535)(v:0≤j∧j≤65535):xy (p,q,m,f,j,l):=⟨u.1,by simp only;omega,v.1,by simp only;omega⟩
theorem BX{d1 d2 d3:Int}{d4:QK}{d5:List sL}{d6 d7 d8:Int}{d9:QK}{E:List sL}{I J L M:QK}{N O x z Y A B:Int}(v:QJ)(hd:Ho (cK d1 d2 d3 d4 d5 d6 d7 d8 d9 E I J L M N O) (fun _=>True))
  (h1:0≤x∧x≤255) (h2:0≤z∧z≤255) (h3:0≤Y∧Y≤255) (h4:0≤A∧A≤65535) (h5:0≤B∧B≤65535) {Z:QK} (hx:∀i,0≤Z.getD i 0∧Z.getD i 0≤255) (a3:Z.length≤10000000) (x2:Int) :
  dV d1 d2 d3 d4 d5 d6 d7 d8 d9 E I J L M N O x z Y A B v Z x2=some true:=by
 unfold dV;rw[Iu];simp only[Option.bind_some,Bool.not_true,Bool.false_eq_true,if_false];obtain⟨b,t,f,es,hf⟩:=K5 v hd h1 h2 h3 h4 h5 hx a3;rw[es];simp only[Option.bind_some];cases f with
 | false=>rfl
 | true =>
  obtain⟨rb,tb,tl⟩:=hf rfl;obtain⟨p,ep,j,V⟩:=ME rb tb tl;have u:=(yD v h1 h2 h3 h4 h5).2 1 (by decide) (by decide) v;obtain⟨lb,-⟩:=V _ u;have q:=j.Ns (by omega);have hl:=q.1;have D:xy (1+x,1+z % 64,1,A,B,v):=KF h4 h5;obtain⟨W,eW,hW,a4⟩:=KU j q (pb u) x2;have a5:iter (bz x2 (1+x,1+z % 64,Y % 2,A,B,v) p) (([]:Qw),0,1)=some W:=eW;obtain⟨a6,a7⟩:=GJ j (1+x,1+z % 64,1,A,B,v);have a8:=hW.le;have f1:=rU q j.Hp.len j.zero (pb u) D (by omega) a6;have f2:=rU q j.Hp.len j.zero (pb u) D (l:=W) (by omega) (hW.rg (Nat.le_refl _));obtain⟨g1,g2⟩:=HF j q (pb u) D rfl hW a4;rw[ep];simp only[Option.bind_some,Bool.not_true,Bool.false_eq_true,if_false,bne_self_eq_false];simp only at lb f1 f2;rw[lb];simp only[Option.bind_some];rw[a5,Option.bind_some,f2,f1];generalize hC:((1+x,1+z % 64,1,A,B,v):Wy)=C at g1 g2 ⊢;cases X:(LF p.1 p.2 C).2 with
  | true =>
   obtain⟨a1,a2⟩:=g2 X;simp[a1,a2]
  | false =>
   obtain⟨a1,a2⟩:=g1 X;cases ha:jo p.1 p.2 C W with
   | false=>simp[a1]
   | true=>simp[a1,a2 ha]
abbrev iF:List Ty:=[MZ,(.prod (.int .u8) (.prod (.int .u8) (.prod (.int .u8) (.prod (.int .u16) (.prod (.int .u16) .flt))))),(.slice (.int .u8)),(.int .u64)]
theorem zq(x:Lk iF)(f:Mn iF x)(hl:List.length (α:=Int) x.2.2.1≤10000000):dV x.1.1.1 x.1.1.2.1 x.1.1.2.2.1 x.1.1.2.2.2.1 x.1.1.2.2.2.2 x.1.2.1.1 x.1.2.1.2.1 x.1.2.1.2.2.1 x.1.2.1.2.2.2.1 x.1.2.1.2.2.2.2 x.1.2.2.1 x.1.2.2.2.1 x.1.2.2.2.2.1 x.1.2.2.2.2.2.1 x.1.2.2.2.2.2.2.1 x.1.2.2.2.2.2.2.2 x.2.1.1 x.2.1.2.1 x.2.1.2.2.1 x.2.1.2.2.2.1 x.2.1.2.2.2.2.1 x.2.1.2.2.2.2.2 x.2.2.1 x.2.2.2.1=some true :=
 BX _ (Jk f.1) f.2.1.1 f.2.1.2.1 f.2.1.2.2.1 f.2.1.2.2.2.1 f.2.1.2.2.2.2.1 (AS f.2.2.1) hl _
end
end Go.Proofs.YtobbjfkfmdiklaaGreatDoor.T
namespace Go.Tv
open Go
section
variable{H:Type}{en:TypeId×Value→H}{P:Program}{w:World}{sp:Nat→Bool}{held:Bool}
def FK:DataW H→Nat
 | .slice f _=>f.length
 | _=>0
theorem Dn{t e:TypeId}(hu:P.underlying t=some (.slice e)){v:Value}{d:DataW H}{p:List MemPlace}(h:DataW.Trod en P w 0 sp held t v d p){F:Bool→Addr→Value→Prop}{R}{β:Bool}{A:Ty}{xs:List A.den}(x:V F R (.p β (.slice A) xs) v):xs.length=FK d:=by
 simp only[V,ah]at x;obtain⟨-,E,len,cap,rfl,⟨I,-⟩,-⟩:=x;obtain⟨j,f⟩:=h;cases j with
 | zero=>simp[DataW.trod]at f
 | succ j =>
  unfold DataW.trod at f;rw[hu]at f;simp only[Value.cells]at f;split at f <;> first | (exfalso;simp_all;done) | skip
  ·simp_all [FK];obtain⟨rfl,-⟩:=f;rfl
  ·rename_i a l c q;simp at q;obtain⟨J,L,M⟩:=q;split at f
   ·simp only[Option.bind_eq_some_iff,Option.map_eq_some_iff]at f;obtain⟨u,z,rest,N,B⟩:=f;cases B;obtain⟨D,-⟩:=lH z;simp only[FK,List.length_map];rw[List.length_range]at D;omega
   ·cases f
end
end Go.Tv
