/- A step of a script. -/
import Derived.Test.YtmcemnfjddoejaaGreatDoorTv23wm
import Derived.Test.YtmcemnfjddoejaaGreatDoorTvSm
import Derived.ProofKit
import Derived.OpenShut
import Derived.SizedLaws
namespace Go.Proofs.YtmcemnfjddoejaaGreatDoor.T
open Go Go.Tv Go.Proofs
noncomputable section
abbrev jB:=Int×(Int×Int×List Int)×(Int×Int×Int×Int×Int×Option Nat)×Int×Bool×Int×Int
abbrev C3:=Int×(Int×Int)×Int×(List bB)×Bool
abbrev AK:jB:=(0,((0,(0,([]:List Int))),((0,(0,(0,(0,(0,(some 0:Option Nat)))))),(0,(false,(0,0))))))
theorem vP.cl{c:Wy}{x:List Int}{p:List bB×List Int}{e:Kn}(h:vP c x p e):p.1.length≤4096:=(h.pm.Mb (by have:=h.len;omega)).1
theorem vP.rl{c:Wy}{x:List Int}{p:List bB×List Int}{f:Kn}(h:vP c x p f):(LF p.1 p.2 c).1.length≤4096:=by
 have hl:=h.cl;have j:=h.pm.IL.len;have e:Gp p.2 p.1.length 0 (dQ p.2 p.2.length):=by rw[pD];exact lG _ _ _ (by omega)
 have:=(qa c e).2;unfold LF;omega
theorem Ip{cl l:List bB}{o:List Int}{r:List bB}(h:gk cl o l=some r)(hl:l.length≤4096):r.length≤100000:=by
 unfold gk at h;split at h
 ·cases h;simp
 ·cases hi:iter (da cl l) (([]:List bB),(0:Int))with
  | none=>rw[hi]at h;cases h
  | some q =>
   rw[hi]at h;cases h;have:=H7 (body:=da cl l) (fun z:List bB×Int=>0≤z.2∧z.2≤(l.length:Int)∧(z.1.length:Int)=z.2) (fun r=>r.length≤100000) (fun s y e c=> ?_) (fun s y e c=> ?_) (s:=([],0)) ⟨by simp,by simp,by simp⟩ hi
   ·exact this
   ·obtain⟨out,i⟩:=s;obtain⟨f,j,k⟩:=e;simp only at f j k;simp only[da]at c
    repeat' split at c
    all_goals first | (cases c;done) | skip
    rename_i m _ _ _ _;cases c;have p:=of_decide_eq_true m;have u:IntKind.i64.wrap (i+1)=i+1:=wrap_i64 (by omega) (by omega);simp only[u,List.length_append,List.length_singleton];omega
   ·obtain⟨out,i⟩:=s;obtain⟨f,j,k⟩:=e;simp only at f j k;simp only[da]at c
    repeat' split at c
    all_goals first | (cases c;omega) | cases c
theorem lV{c:Wy}{x:List Int}{p:List bB×List Int}{e:Kn}(h:vP c x p e)(b:Option Z1):∃r,r.length≤100000∧bV (LF p.1 p.2 c).1 (LF p.1 p.2 c).2 b c.1 c.2.1 c.2.2.1 c.2.2.2.1 c.2.2.2.2.1 c.2.2.2.2.2 x p.1 p.2 (some (ik p.1 p.2 c)) e=some (r,(LF p.1 p.2 c).2):=by
 obtain⟨r,f⟩:=FX h;refine⟨r,Ip f h.rl,?_⟩;unfold bV;rw[f];rfl
theorem Jb{b:Option Z1}(hb:GU b){c:Wy}{x:List Int}{p:List bB×List Int}{j:Kn}(h:vP c x p j)(q u:Int){k:List Int}(A:Bytes k):
  ∃code v e f,dv q u k (LF p.1 p.2 c).1 (LF p.1 p.2 c).2 b c.1 c.2.1 c.2.2.1 c.2.2.2.1 c.2.2.2.2.1 c.2.2.2.2.2 x p.1 p.2 (some (ik p.1 p.2 c)) j=some (code,(LF e.1 e.2 c).1,(LF e.1 e.2 c).2,v,e.1,e.2,some (ik e.1 e.2 c),f)∧vP c v e f:=by
 unfold dv;rcases Ej h.len q u k with⟨code,z,m⟩ | ⟨i,d,rfl,rfl,z,m,z3⟩
 ·refine⟨code,x,p,j,?_,h⟩;have:(code != 0)=true:=by simpa using z
  simp only[m,Option.bind_some,this,if_true]
 ·obtain⟨e,f,B,C⟩:=J9 hb (Ad h.JZ A i d) m h.wy h.Nj (LF p.1 p.2 c).1 (LF p.1 p.2 c).2 x p.1 p.2 (some (ik p.1 p.2 c));refine⟨0,_,e,f,?_,C⟩;simp only[z3,Option.bind_some,bne_self_eq_false,Bool.false_eq_true,if_false,B]
theorem IB{b:Option Z1}(hb:GU b){c:Wy}{x:List Int}{p:List bB×List Int}{m:Kn}(h:vP c x p m)(d:Wy):
  ∃code f e j,dq d.1 d.2.1 d.2.2.1 d.2.2.2.1 d.2.2.2.2.1 d.2.2.2.2.2 (LF p.1 p.2 c).1 (LF p.1 p.2 c).2 b c.1 c.2.1 c.2.2.1 c.2.2.2.1 c.2.2.2.2.1 c.2.2.2.2.2 x p.1 p.2 (some (ik p.1 p.2 c)) m =
   some (code,(LF e.1 e.2 f).1,(LF e.1 e.2 f).2,f.1,f.2.1,f.2.2.1,f.2.2.2.1,f.2.2.2.2.1,f.2.2.2.2.2,x,e.1,e.2,some (ik e.1 e.2 f),j)∧vP f x e j:=by
 obtain⟨ok,k⟩:=w9 d.1 d.2.1 d.2.2.1 d.2.2.2.1 d.2.2.2.2.1 d.2.2.2.2.2;unfold dq;rw[k];cases ok with
 | false=>exact⟨40,c,p,m,rfl,h⟩
 | true =>
  rw[Option.bind_some,if_neg (by decide)];split
  ·exact⟨0,c,p,m,rfl,h⟩
  ·obtain⟨e,j,q,u⟩:=J9 hb h.JZ h.len (c:=d) (A0 k) (Bc.nil d) (LF p.1 p.2 c).1 (LF p.1 p.2 c).2 x p.1 p.2 (some (ik p.1 p.2 c));refine⟨0,d,e,j,?_,u⟩;rw[q];rfl
theorem Mz{c:Wy}{x:List Int}{p:List bB×List Int}{e:Kn}(h:vP c x p e)(i:Int)(b:Bool):∃r,eM (some (ik p.1 p.2 c)) i b=some r :=
 Gf h.cl (Cn (Jt h.pm c)) (Gc _) (by have:=h.rl;unfold pK;split <;> simp <;> omega) p.2 c.2.1 i b
theorem My{c:Wy}{x:List Int}{p:List bB×List Int}{e:Kn}(h:vP c x p e)(i j:Int):∃r,eH (some (ik p.1 p.2 c)) i j=some r :=
 F7 h.cl (Cn (Jt h.pm c)) (by have:=h.rl;unfold pK;split <;> simp <;> omega) p.2 c.2.1 i j
abbrev dst(c:Wy)(x:List Int)(p:List bB×List Int)(e:Kn)(out:List C3)(k:Int):(List bB)×Bool×Int×Int×Int×Int×Int×(Option Nat)×(List Int)×(List bB)×(List Int)×(Option ((List bB×List Int)×(List bB×List (List Int))))×Kn×(List C3)×Int :=
 ((LF p.1 p.2 c).1,(LF p.1 p.2 c).2,c.1,c.2.1,c.2.2.1,c.2.2.2.1,c.2.2.2.2.1,c.2.2.2.2.2,x,p.1,p.2,some (ik p.1 p.2 c),e,out,k)
def DW(s:jB):Prop:=0≤s.1∧s.1≤3∧Bytes s.2.1.2.2
theorem kq(i j:Int):cr (.int .i64) i j=decide (i=j):=rfl
theorem Nf:¬(0:Int)=1:=by decide
theorem Ni:¬(0:Int)=2:=by decide
theorem Ln:¬(1:Int)=2:=by decide
theorem M4:¬(0:Int)=3:=by decide
theorem LW:¬(1:Int)=3:=by decide
theorem MQ:¬(2:Int)=3:=by decide
theorem wZ{b:Option Z1}(hb:GU b){c:Wy}{x:List Int}{p:List bB×List Int}{D:Kn}(h:vP c x p D){s:jB}(M:DW s):
  ∃C E m f a,vP C E m f∧a.2.2.2.1.length≤100000∧(2≤s.1→C=c∧E=x∧m=p∧f=D) ∧
   ∀ {l:List jB} {out:List C3} {k:Nat},k<l.length→out.length≤1000→l.length≤1000→l.getD k AK=s→aR l b (dst c x p D out (k:Int))=some (.inl (dst C E m f (out++[a]) ((k+1:Nat):Int))):=by
 have pre:∀ {l:List jB} {out:List C3} {k:Nat},k<l.length→out.length≤1000→l.length≤1000→(k:Int)<(l.length:Int)∧0≤(k:Int)∧(∀a:C3,(out.length+([a]:List C3).length)*64≤140737488355328∧out.length+([a]:List C3).length≤9223372036854775807)∧IntKind.i64.wrap ((k:Int)+1)=((k+1:Nat):Int):=fun {l out k} q u hl =>
  ⟨by omega,by omega,fun a=>by simp only[List.length_singleton];omega,bj (i:=k) (by omega)⟩
 obtain⟨R,V,N⟩:=M;rcases(show s.1=0∨s.1=1∨s.1=2∨s.1=3 by omega)with e | e | e | e
 ·obtain⟨code,E,m,f,v,I⟩:=Jb hb h s.2.1.1 s.2.1.2.1 N;obtain⟨r,z,A⟩:=lV I b;refine⟨c,E,m,f,(code,(0,0),0,r,(LF m.1 m.2 c).2),I,z,fun O=>by omega,fun {l out k} q u hl j=> ?_⟩;obtain⟨B,g2,g3,w⟩:=pre q u hl;simp only[aR,dst,B,g2,and_self,decide_true,if_true,Int.toNat_natCast,j,w];simp only[e,kq 0 0,decide_true,if_true];unfold fZ;simp only[v,Option.bind_some,A,g3,and_self,if_true]
 ·obtain⟨code,C,m,f,v,I⟩:=IB hb h s.2.2.1;obtain⟨r,z,A⟩:=lV I b;refine⟨C,x,m,f,(code,(0,0),0,r,(LF m.1 m.2 C).2),I,z,fun O=>by omega,fun {l out k} q u hl j=> ?_⟩;obtain⟨B,g2,g3,w⟩:=pre q u hl;simp only[aR,dst,B,g2,and_self,decide_true,if_true,Int.toNat_natCast,j,w];simp only[e,kq 0 1,kq 1 1,Nf,decide_false,decide_true,Bool.false_eq_true,if_false,if_true];unfold fV;simp only[v,Option.bind_some,A,g3,and_self,if_true]
 ·obtain⟨⟨J,L⟩,v⟩:=Mz h s.2.2.2.1 s.2.2.2.2.1;obtain⟨r,z,A⟩:=lV h b;refine⟨c,x,p,D,(L,(J.1,J.2),0,r,(LF p.1 p.2 c).2),h,z,fun _=>⟨rfl,rfl,rfl,rfl⟩,fun {l out k} q u hl j=> ?_⟩;obtain⟨B,g2,g3,w⟩:=pre q u hl;simp only[aR,dst,B,g2,and_self,decide_true,if_true,Int.toNat_natCast,j,w];simp only[e,kq 0 2,kq 1 2,kq 2 2,Ni,Ln,decide_false,decide_true,Bool.false_eq_true,if_false,if_true];unfold fW fY;simp only[v,Option.bind_some,A,g3,and_self,if_true]
 ·obtain⟨⟨J,L⟩,v⟩:=My h s.2.2.2.2.2.1 s.2.2.2.2.2.2;obtain⟨r,z,A⟩:=lV h b;refine⟨c,x,p,D,(L,(0,0),J,r,(LF p.1 p.2 c).2),h,z,fun _=>⟨rfl,rfl,rfl,rfl⟩,fun {l out k} q u hl j=> ?_⟩;obtain⟨B,g2,g3,w⟩:=pre q u hl;simp only[aR,dst,B,g2,and_self,decide_true,if_true,Int.toNat_natCast,j,w];simp only[e,kq 0 3,kq 1 3,kq 2 3,kq 3 3,M4,LW,MQ,decide_false,decide_true,Bool.false_eq_true,if_false,if_true];unfold gh gq;simp only[v,Option.bind_some,A,g3,and_self,if_true]
theorem Jf{b:Option Z1}(hb:GU b){l:List jB}{c:Wy}{x:List Int}{p:List bB×List Int}{q:Kn}(h:vP c x p q){out:List C3}{k:Nat}(u:k<l.length)(v:out.length≤1000)(hl:l.length≤1000)(z:DW (l.getD k AK)):
  ∃f j m e a,aR l b (dst c x p q out (k:Int))=some (.inl (dst f j m e (out++[a]) ((k+1:Nat):Int)))∧vP f j m e∧a.2.2.2.1.length≤100000:=by
 obtain⟨f,j,m,e,a,A,B,-,C⟩:=wZ hb h z;exact⟨f,j,m,e,a,C u v hl rfl,A,B⟩
end
end Go.Proofs.YtmcemnfjddoejaaGreatDoor.T
namespace Go.Proofs.YtmcemnfjddoejaaGreatDoor.T
open Go Go.Tv Go.Proofs
noncomputable section
theorem II{l:List jB}{n k:Nat}(v:n≤l.length)(f:k<n)(b:Option Z1)(c:Wy)(x:List Int)(p:List bB×List Int)(e:Kn)(out:List C3):aR (l.take n) b (dst c x p e out (k:Int))=aR l b (dst c x p e out (k:Int)):=by
 have j:(k:Int)<((l.take n).length:Int):=by rw[List.length_take];omega
 have m:(k:Int)<(l.length:Int):=by omega
 have q:0≤(k:Int):=by omega
 have u:(l.take n).getD k AK=l.getD k AK:=by rw[List.getD_eq_getElem?_getD,List.getD_eq_getElem?_getD,List.getElem?_take_of_lt f]
 simp only[aR,dst,j,m,q,and_self,decide_true,if_true,Int.toNat_natCast,u]
theorem HE{l:List jB}(b:Option Z1)(c:Wy)(x:List Int)(p:List bB×List Int)(e:Kn)(out:List C3):aR l b (dst c x p e out (l.length:Int))=some (.inr (.inl out)):=by
 have q:¬((l.length:Int)<(l.length:Int)):=Int.lt_irrefl _;simp only[aR,dst,q,decide_false,Bool.false_eq_true,if_false]
theorem runs{b:Option Z1}(hb:GU b){l:List jB}{n:Nat}(z:n≤l.length)(hl:l.length≤64)(A:∀i,i<l.length→DW (l.getD i AK)){m:Wy}{q:List Int}{u:List bB×List Int}{e:Kn}(B:vP m q u e):
  ∀k:Nat,k≤n→∃c x p f out,iter (aR l b) (dst m q u e [] ((0:Nat):Int))=iter (aR l b) (dst c x p f out (k:Int))∧iter (aR (l.take n) b) (dst m q u e [] ((0:Nat):Int))=iter (aR (l.take n) b) (dst c x p f out (k:Int))∧vP c x p f∧out.length=k∧∀a∈out,a.2.2.2.1.length≤100000
 | 0,_=>⟨m,q,u,e,[],rfl,rfl,B,rfl,fun a ha=>by cases ha⟩
 | k+1,R=>by
  obtain⟨c,x,p,f,out,D,E,h,I,ha⟩:=runs hb z hl A B k (by omega);obtain⟨J,L,M,v,a,C,N,O⟩:=Jf hb h (l:=l) (k:=k) (by omega) (out:=out) (by omega) (by omega) (A k (by omega));refine⟨J,L,M,v,out++[a],?_,?_,N,by simp[I],fun y j=> ?_⟩
  ·rw[D,cT C]
  ·rw[E,cT ((II z (by omega) b c x p f out).trans C)]
  ·rcases List.mem_append.1 j with j | j
   ·exact ha y j
   ·rw[List.mem_singleton.1 j];exact O
theorem ER:mP=some ():=rfl
theorem Dq{b k:Option Z1}(h:∀x,aN b x=aN k x)(m p q u v z A B C D E I J L c e f j M):dq m p q u v z A B b C D E I J L c e f j M=dq m p q u v z A B k C D E I J L c e f j M:=by
 unfold dq;simp only[tJ h]
theorem GH{b c:Option Z1}(h:∀x,aN b x=aN c x)(l:List jB):aR l b=aR l c:=by
 funext s;unfold aR fZ fV fW gh bV fY gq;simp only[DS h,Dq h]
theorem IQ:dW=some true:=by
 obtain⟨b,e,hb⟩:=GM;unfold dW g6;rw[Ib];simp only[Option.bind_some,e,FZ hb,GH hb];kernel_rfl
end
end Go.Proofs.YtmcemnfjddoejaaGreatDoor.T
namespace Go.Tv
open Go Go.RowKit
def ur(P:Program):Nat→TypeId→Option Ty
 | 0,_=>none
 | n+1,t=>match P.underlying t with
  | some .bool=>some .bool
  | some (.int k)=>some (.int k)
  | some .string=>some .str
  | some (.float .f64)=>some .flt
  | some (.slice e)=>match ur P n e with
   | some A=>if P.cellsOf e=A.size∧0<A.size then some (.slice A)else none
   | none=>none
  | some (.struct c)=>match c.toList.mapM (fun f=>ur P n f.type)with
   | some Ts=>if iI P 0 c.toList Ts=true∧P.cellsOf t=(fI Ts).size∧Ts≠[]then some (fI Ts)else none
   | none=>none
  | _=>none
def Wf:(T:Ty)→T.den→Prop
 | .int k,n=>k.min≤(show Int from n)∧(show Int from n)≤k.max
 | .bool,_=>True
 | .str,s=>List.length (α:=UInt8) s≤maxLen
 | .flt,n=>∀m:Nat,(show Option Nat from n)=some m→m<18446744073709551616∧cE m=some m
 | .unit,_=>True
 | .prod a b,x=>Wf a x.1∧Wf b x.2
 | .slice A,c=>List.length (α:=A.den) c≤maxLen∧∀i (h:i<List.length (α:=A.den) c),Wf A c[i]
 | .ptr _,_=>True
 | .tree _ _,_=>True
 | .arr _ _,_=>True
 | .mapi _ _,_=>True
section
variable{H:Type}{enc':TypeId×Value→H}{P:Program}{w:World}{sp:Nat→Bool}{held:Bool}
theorem build{A:Ty}{p:Nat→A.den→Prop}:∀(n:Nat),(∀i,i<n→∃x,p i x)→∃xs:List A.den,xs.length=n∧∀i (h:i<xs.length),p i xs[i]
 | 0,_=>⟨[],rfl,fun i h=>absurd h (by simp)⟩
 | n+1,h=>by
  obtain⟨xs,j,k⟩:=build n fun i hi=>h i (by omega)
  obtain⟨x,m⟩:=h n (by omega);refine⟨xs++[x],by simp[j],fun i hi=> ?_⟩;simp only[List.length_append,List.length_cons,List.length_nil]at hi;rcases Nat.lt_or_ge i xs.length with c | c
  ·rw[List.getElem_append_left c];exact k i c
  ·obtain rfl:i=n:=by omega
   have e:(xs++[x])[i]'(by simp;omega)=x:=by rw[List.getElem_append_right (by omega)];simp[j]
   rw[e];exact m
def Reads(w:World)(T:Ty)(c:List Value)(x:T.den):Prop:=ai (fun a v=>w.cell? a=some v) T x (fun k v=>c[k]? = some v)∧Wf T x
theorem FL{base:Nat}{a:Addr}{n:Nat}{c:List Value}(h:w.cells? base a n=some c):c.length=n∧∀k v,c[k]? = some v→w.cell? (a.add k)=some v:=by
 unfold World.cells? at h;split at h
 ·obtain⟨e,q⟩:=mB h;simp only[List.length_range]at e;refine⟨e,fun k v j=> ?_⟩;have f:k<n:=by rw[←e];exact(List.getElem?_eq_some_iff.1 j).1
  obtain⟨y,m,u⟩:=q k k (by simp[f]);rw[j]at m;cases m;exact u
 ·cases h
theorem Reads.cut{T:Ty}{f:List Value}{off n:Nat}{x:T.den}(h:Reads w T ((f.drop off).take n) x):ai (fun a v=>w.cell? a=some v) T x (fun k v=>f[off+k]? = some v)∧Wf T x :=
 ⟨ai.mono (fun _ _ h=>h) (fun k v e=>by
  rw[List.getElem?_take]at e;split at e
  ·simpa using e
  ·cases e) h.1,h.2⟩
theorem za{m:List Value}:∀(j:List Field) (Ts:List Ty) (off:Nat),iI P off j Ts=true→j.length=Ts.length →
  (∀(i:Nat) f T,j[i]? = some f→Ts[i]? = some T→∃x:T.den,Reads w T ((m.drop f.offset).take (P.cellsOf f.type)) x) →
  ∀c,(∃x:c.den,ai (fun a v=>w.cell? a=some v) c x (fun k v=>m[off - c.size+k]? = some v)∧Wf c x)→c.size≤off →
  ∃x:(ir c Ts).den,ai (fun a v=>w.cell? a=some v) (ir c Ts) x (fun k v=>m[off - c.size+k]? = some v)∧Wf (ir c Ts) x
 | [],[],off,_,_,_,c,p,_=>p
 | [],_::_,_,_,hl,_,_,_,_=>by simp at hl
 | _::_,[],_,_,hl,_,_,_,_=>by simp at hl
 | f::j,T::Ts,off,q,hl,u,c,⟨A,p,w0⟩,B=>by
  simp only[iI,Bool.and_eq_true,beq_iff_eq]at q;obtain⟨⟨C,M⟩,D⟩:=q;obtain⟨y,E⟩:=u 0 f T rfl rfl;have e:=E.cut;rw[C]at e;obtain⟨z,hz,I⟩:=za j Ts (off+T.size) D (by simpa using hl) (fun i J T' a b=>u (i+1) J T' (by simpa using a) (by simpa using b)) T ⟨y,by
   rw[Nat.add_sub_cancel];exact e.1,e.2⟩ (Nat.le_add_left _ _)
  refine⟨(A,z),⟨p,?_⟩,w0,I⟩;refine ai.mono (fun _ _ h=>h) (fun k v L=> ?_) hz;rw[Nat.add_sub_cancel]at L;show m[off - c.size+(c.size+k)]? = some v;rwa [show off - c.size+(c.size+k)=off+k by omega]
theorem CI{m:List Value}(e:List Field)(Ts:List Ty)(u:iI P 0 e Ts=true)(hl:e.length=Ts.length)(q:Ts≠[])
  (B:∀(i:Nat) f T,e[i]? = some f→Ts[i]? = some T→∃x:T.den,Reads w T ((m.drop f.offset).take (P.cellsOf f.type)) x):∃x:(fI Ts).den,Reads w (fI Ts) m x:=by
 match e,Ts with
 | [],[]=>exact absurd rfl q
 | [],_::_=>simp at hl
 | _::_,[]=>simp at hl
 | f::e,T::Ts =>
  simp only[iI,Bool.and_eq_true,beq_iff_eq]at u;obtain⟨⟨D,M⟩,E⟩:=u;obtain⟨y,I⟩:=B 0 f T rfl rfl;have c:=I.cut;rw[D]at c;obtain⟨z,hz,C⟩:=za e Ts (0+T.size) E (by simpa using hl) (fun i J T' a b=>B (i+1) J T' (by simpa using a) (by simpa using b)) T ⟨y,by
   rw[Nat.add_sub_cancel];exact c.1,c.2⟩ (Nat.le_add_left _ _)
  have j:ai (fun a v=>w.cell? a=some v) (ir T Ts) z (fun k v=>m[k]? = some v):=ai.mono (fun _ _ h=>h) (fun k v L=>by
   rwa [Nat.add_sub_cancel,Nat.zero_add]at L) hz
  cases Ts with
  | nil=>exact⟨(z,()),⟨j,trivial⟩,C,trivial⟩
  | cons b r=>exact⟨z,j,C⟩
theorem Ci:∀(n:Nat) (t:TypeId) (T:Ty),ur P n t=some T→∀(j:Nat) (u:List Value) (r:DataW H×List MemPlace),DataW.trod enc' P w 0 sp held j t u=some r→(∃x:T.den,Reads w T u x)∧u.length=T.size
 | 0,_,_,h,_,_,_,_=>by simp[ur]at h
 | n+1,t,T,h,0,u,r,c=>by simp[DataW.trod]at c
 | n+1,t,T,h,j+1,u,r,c=>by
  have ih:=Ci n;simp only[ur]at h;unfold DataW.trod at c;split at h
  ·rename_i hu;cases h;rw[hu]at c;split at c <;> first | (exfalso;simp_all;done) | skip
   rename_i b _;exact⟨⟨b,by simp[ai],trivial⟩,rfl⟩
  ·rename_i k hu;cases h;rw[hu]at c;split at c <;> first | (exfalso;simp_all;done) | skip
   rename_i J L i e;cases e;split at c
   ·rename_i z;obtain⟨rfl,E⟩:=z;refine⟨⟨i,by simp[ai],?_⟩,rfl⟩;simp only[Lit.wf,Bool.and_eq_true,decide_eq_true_eq]at E;exact E
   ·cases c
  ·rename_i hu;cases h;rw[hu]at c;split at c <;> first | (exfalso;simp_all;done) | skip
   rename_i s e;split at c
   ·rename_i hs;refine⟨⟨s.data.toList,by simp[ai],?_⟩,rfl⟩;show s.data.toList.length≤maxLen;have e:s.data.toList.length=s.size:=Array.length_toList;rw[e];exact hs
   ·cases c
  ·rename_i hu;cases h;rw[hu]at c;split at c <;> first | (exfalso;simp_all;done) | skip
   rename_i J L i e;cases e;split at c
   ·rename_i z;obtain⟨rfl,E⟩:=z;refine⟨⟨cE i,by simp[ai],fun m hm=> ?_⟩,rfl⟩;have M:i<18446744073709551616:=by simpa [Lit.wf]using E
    have e:=jV hm;subst e;exact⟨M,hm⟩
   ·cases c
  ·rename_i e hu;split at h
   ·rename_i A hA;split at h
    ·rename_i N;cases h;rw[hu]at c;split at c <;> first | (exfalso;simp_all;done) | skip
     ·exact⟨⟨[],⟨none,0,0,rfl,⟨rfl,Nat.le_refl _⟩,fun i hi=>absurd hi (by simp)⟩,Nat.zero_le _,fun i hi=>absurd hi (by simp)⟩,rfl⟩
     ·rename_i e' a len cap q;cases q;simp only at c;split at c
      ·rename_i hb;simp only[Option.bind_eq_some_iff]at c;obtain⟨O,he,_⟩:=c;obtain⟨g1,g2⟩:=mB he;simp only[List.length_range]at g1;obtain⟨R,B,C⟩:=build (A:=A) (p:=fun i x=>ai (fun a v=>w.cell? a=some v) A x (fun k v=>w.cell? (a.add (i*A.size+k))=some v)∧Wf A x) len fun i hi=>by obtain⟨y,_,I⟩:=g2 i i (by simp[hi]);simp only[Option.bind_eq_some_iff]at I;obtain⟨u,V,q4⟩:=I;obtain⟨s1,s2⟩:=FL V;obtain⟨⟨x,t1,t2⟩,_⟩:=ih e A hA j u y q4;refine⟨x,ai.mono (fun _ _ h=>h) (fun k v z=> ?_) t1,t2⟩;have:=s2 k v z;rw[add_add]at this;rw[N.1]at this;exact this
       refine⟨⟨R,⟨some a,len,cap,rfl,⟨B.symm,hb.2.1⟩,fun i hi=>⟨a,rfl,(C i hi).1⟩⟩,?_,fun i hi=>(C i hi).2⟩,rfl⟩;show R.length≤maxLen;rw[B];exact Nat.le_trans hb.2.1 hb.2.2
      ·cases c
    ·cases h
   ·cases h
  ·rename_i fs hu;split at h
   ·rename_i Ts X;split at h
    ·rename_i hc;obtain⟨Y,Z,a1⟩:=hc;cases h;rw[hu]at c;split at c <;> first | (exfalso;simp_all;done) | skip
     rename_i a3 _ _ q;cases q;split at c
     ·rename_i D;simp only[Option.map_eq_some_iff]at c;obtain⟨R,a2,_⟩:=c;obtain⟨g1,g2⟩:=mB a2;obtain⟨J,L⟩:=mB X;refine⟨CI fs.toList Ts Y J.symm a1 fun i f T hf hT=> ?_,by rw[D,Z]⟩;obtain⟨T',q1,I⟩:=L i f hf;rw[hT]at q1;cases q1;obtain⟨y,_,V⟩:=g2 i f hf;exact(ih f.type T I j _ y V).1
     ·cases c
    ·cases h
   ·cases h
  ·cases h
end
end Go.Tv
