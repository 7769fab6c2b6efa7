import Derived.Test.YtobbjfkfmdiklaaGreatDoorTvFbm
import Derived.Test.YtobbjfkfmdiklaaGreatDoorTv50hbm
import Derived.Test.YtobbjfkfmdiklaaGreatDoorTv50bm
import Derived.Test.YtobbjfkfmdiklaaGreatDoorTv50gfm
namespace Go.Tv
open Go
end Go.Tv
namespace Go.Proofs.YtobbjfkfmdiklaaGreatDoor.T
open Go Go.Tv Go.Proofs
noncomputable section
section
variable{d:Dt}{n:Nat}{c c':Wy}(h1:c'.1=c.1)(h2:c'.2.1=c.2.1)(hp:∀op e k g last,iY c' op e k g last=iY c op e k g last)
include h1 h2 hp
end
section
variable{d:Dt}{n:Nat}{c:Wy}(hn:n≤4096)(w:Bi c)(hc:∀a k,a+k≤n→0≤fh d c.2.1 a k∧fh d c.2.1 a k≤1000000)(hm:∀a k,a+k<n→fh d c.2.1 a k≤fh d c.2.1 a (k+1))
include hn w hc hm
end
theorem Ht(cl:Qk){A T k:Nat}(h:A+k<T):((cl.take T).drop A).getD k c0=cl.getD (A+k) c0:=by
 rw[List.getD_eq_getElem?_getD,List.getElem?_drop,List.getElem?_take,if_pos h,←List.getD_eq_getElem?_getD]
theorem HI{cl:Qk}(hl:cl.length≤4096)(o:QK){f a b:Nat}(h1:a≤b)(h2:f+b≤cl.length):mE cl o ((f+a:Nat):Int) ((f+b:Nat):Int)=some (Lw (aN cl o f) a b):=by
 obtain⟨p,-,-⟩:=pw (cl:=cl) o (show f+a≤f+b by omega) h2 (by omega);rw[wq cl o f a b h1]at p;obtain⟨z,B⟩:=qR (aN cl o f) a b h1;unfold mE Lw;rw[p,Option.bind_some];generalize kb (aN cl o f) a b=t at z B;have j:((cl.take (f+t)).drop (f+a)).length=t - a:=by rw[List.length_drop,List.length_take];omega
 have C:iter (gw cl ((f+a:Nat):Int) ((f+t:Nat):Int)) ((FC (aN cl o f) a 0:Int),((0:Nat):Int))=some (FC (aN cl o f) a (t - a):Int):=by
  refine ib (fun k=>((FC (aN cl o f) a k:Int),((k:Nat):Int))) (t - a) (fun k hk=>?_) ?_
  ·have q:(k:Int)<((((cl.take (f+t)).drop (f+a)).length:Nat):Int):=by rw[j];omega
   have u:0≤(k:Int):=by omega
   have E:=Gw (aN cl o f) a k;have v:=Ht cl (A:=f+a) (T:=f+t) (k:=k) (by omega);have D:(aN cl o f (a+k)).2.1=(cl.getD (f+a+k) c0).2.2.2:=by simp only[aN];rw[←Nat.add_assoc]
   simp only[FC];rw[D];by_cases e:(cl.getD (f+a+k) c0).2.2.2=1
   ·have p:IntKind.i64.wrap ((FC (aN cl o f) a k:Int)+1)=((FC (aN cl o f) a k+1:Nat):Int):=bF (by omega);simp only[gw,Int.toNat_natCast,q,u,v,p,BEq.rfl,and_self,decide_true,if_true,Option.bind_some,bF (show k≤9000000000000000000 by omega),e]
   ·have p:((cl.getD (f+a+k) c0).2.2.2 == 1)=false:=by rw[beq_eq_false_iff_ne];exact e
    simp only[gw,Int.toNat_natCast,q,u,v,p,and_self,decide_true,if_true,Bool.false_eq_true,if_false,Option.bind_some,bF (show k≤9000000000000000000 by omega),e]
  ·have q:¬(((t - a:Nat):Int)<((((cl.take (f+t)).drop (f+a)).length:Nat):Int)):=by rw[j];omega
   simp only[gw,Int.toNat_natCast,q,decide_false,Bool.false_eq_true,if_false]
 rw[if_pos (by omega)];exact congrArg (fun x=>Option.bind x fun o=>some o) C
theorem GY{j:Qk}(hc:zF j)(o:QK){f:Int}(v:1≤f)(z:f≤64){q p:Nat}(h1:q≤p)(h2:p≤j.length)(e:Int):ic j o (q:Int) (p:Int) e f=some (sU j f q p e):=by
 have h:=pC hc o v z h1 h2 e;unfold ix at h;cases u:ic j o (q:Int) (p:Int) e f with
 | none=>rw[u]at h;cases h
 | some r =>
  rw[u,Option.bind_some]at h;have:=congrArg (fun x:Option bV=>(x.getD c0).2.2.1) h;exact congrArg some this
theorem ID{f:Qk}(hc:zF f){o:QK}(v:o.length=f.length+1){fr a b:Nat}(p:a<b)(hb:fr+b≤f.length){c:Wy}(w:Cg c)(hp:(o.getD (fr+a) 0 == 3)=(oH (aN f o fr) a == 3))(last:Bool):
  iy f o ((fr+a:Nat):Int) ((fr+b:Nat):Int) last c.1 c.2.1 c.2.2.1 c.2.2.2.1 c.2.2.2.2.1 c.2.2.2.2.2=some (if oH (aN f o fr) b=0 then(0,false)else iY c (oH (aN f o fr) a) (oH (aN f o fr) b) (mi (aN f o fr) c.2.1 a b (oH (aN f o fr) b)) (Lw (aN f o fr) a b) last):=by
 have hl:=hc.1;unfold iy;rw[yR f (i:=fr+b) (by omega),jQ f o fr (by omega)];simp only[Option.bind_some];by_cases j:oH (aN f o fr) b=0
 ·rw[if_pos j,j];rfl
 ·have q:(oH (aN f o fr) b != 0)=true:=by simpa using j
  have u:¬(((fr+b:Nat):Int)≤((fr+a:Nat):Int)):=by omega
  rw[if_neg j];simp only[q,u,Bool.not_true,Bool.false_eq_true,if_false,decide_false,Option.bind_some];rw[GY hc o w.1 w.2 (by omega) hb,HI hl o (by omega) hb,kI f o fr c.2.1 (by omega)];simp only[Option.bind_some];rw[yy (by omega) f hp c];rfl
def oV(f:Qk)(o:QK)(c:Wy)(x:bV):Int×Bool:=(iy f o x.1 x.2.1 (o.getD x.2.1.toNat 0 == 2) c.1 c.2.1 c.2.2.1 c.2.2.2.1 c.2.2.2.2.1 c.2.2.2.2.2).getD (0,false)
theorem A0{f:Qk}(hc:zF f){o:QK}(p:o.length=f.length+1)(q:o.getD 0 0≠3){c:Wy}(w:Cg c)(j:Bi c){x:bV}(u:Rg f.length x):
  iy f o x.1 x.2.1 (o.getD x.2.1.toNat 0 == 2) c.1 c.2.1 c.2.2.1 c.2.2.2.1 c.2.2.2.2.1 c.2.2.2.2.2=some (oV f o c x)∧0≤(oV f o c x).1∧(oV f o c x).1≤1000000000∧0≤x.2.1∧x.2.1<(o.length:Int):=by
 obtain⟨a,b,v,z,h1,h2⟩:=u;have hp:(o.getD (0+a) 0 == 3)=(oH (aN f o 0) a == 3):=by
  cases a with
  | zero=>rw[beq_eq_false_iff_ne.2 (show o.getD (0+0) 0≠3 from q)];rfl
  | succ a=>rw[jQ f o 0 (by omega)]
 have e:=ID hc p h1 (fr:=0) (by omega) w hp (o.getD x.2.1.toNat 0 == 2);rw[Nat.zero_add,Nat.zero_add,←v,←z]at e;unfold oV;rw[e];refine⟨rfl,?_,?_,by omega,by omega⟩
 ·simp only[Option.getD_some];split
  ·exact Int.le_refl _
  ·exact(yb j _ _ _ _ _).1
 ·simp only[Option.getD_some];split
  ·exact(by decide:(0:Int)≤1000000000)
  ·exact(yb j _ _ _ _ _).2
def zA(f:Qk)(o:QK)(c:Wy):Qk→Int
 | []=>0
 | x::r=>(oV f o c x).1+zA f o c r
def uo(f:Qk)(o:QK)(c:Wy):Qk→Bool
 | []=>true
 | x::r=>(oV f o c x).2 && uo f o c r
theorem yQ{f:Qk}(hc:zF f){o:QK}(E:o.length=f.length+1)(I:o.getD 0 0≠3){c:Wy}(w:Cg c)(J:Bi c){l:Qk}(hl:l.length≤4096)(u:∀x∈l,Rg f.length x):
  lu f o l c.1 c.2.1 c.2.2.1 c.2.2.2.1 c.2.2.2.2.1 c.2.2.2.2.2=some (if uo f o c l=true then(zA f o c l,true)else(0,false)):=by
 have key:∀(r pre:Qk) (s:Int),(pre++r).length≤4096→(∀x∈r,Rg f.length x)→0≤s→s≤1000000000*(pre.length:Int) →
   iter (fS f o (pre++r) c.1 c.2.1 c.2.2.1 c.2.2.2.1 c.2.2.2.2.1 c.2.2.2.2.2) (s,(pre.length:Int))=some (if uo f o c r=true then .inl (s+zA f o c r)else .inr (0,false)):=fun r=>by
  induction r with
  | nil =>
   intro pre s _ _ _ _;have v:¬((pre.length:Int)<(pre.length:Int)):=Int.lt_irrefl _;rw[List.append_nil];exact cr (by simp only[fS,v,decide_false,Bool.false_eq_true,if_false,uo,zA,if_true,Int.add_zero])
  | cons x r L =>
   intro pre s j u O V;obtain⟨A,X,Y,B,C⟩:=A0 hc E I w J (u x (List.mem_cons_self ..));have z:pre.length+(r.length+1)≤4096:=by simpa using j
   have v:(pre.length:Int)<((pre++x::r).length:Int):=by simp;omega
   have D:0≤(pre.length:Int):=by omega
   by_cases hk:(oV f o c x).2=true
   ·have p:=L (pre++[x]) (s+(oV f o c x).1) (by simpa using j) (fun y M=>u y (List.mem_cons_of_mem _ M)) (by omega) (by simp only[List.length_append,List.length_singleton];omega);rw[List.append_assoc]at p;simp only[List.singleton_append,List.length_append,List.length_singleton]at p;simp only[uo,zA,hk,Bool.true_and];rw[←Int.add_assoc,←p];refine dO ?_;simp only[fS,v,D,and_self,decide_true,if_true,Int.toNat_natCast,qQ,B,C,A,Option.bind_some,hk,Bool.not_true,Bool.false_eq_true,if_false];rw[wrap_i64 (by omega) (by omega),show IntKind.i64.wrap ((pre.length:Int)+1)=((pre.length+1:Nat):Int)from bF (by omega)]
   ·have q:(oV f o c x).2=false:=by simpa using hk
    simp only[uo,q,Bool.false_and,Bool.false_eq_true,if_false];refine cr ?_;simp only[fS,v,D,and_self,decide_true,if_true,Int.toNat_natCast,qQ,B,C,A,Option.bind_some,q,Bool.not_false]
 have:=key l [] 0 (by simpa using hl) u (by omega) (by simp);simp only[List.nil_append,List.length_nil,Int.zero_add]at this;have N:((0:Nat):Int)=0:=rfl;rw[N]at this;unfold lu;rw[this];by_cases ha:uo f o c l=true
 ·rw[if_pos ha,if_pos ha];rfl
 ·rw[if_neg ha,if_neg ha];rfl
theorem CK:fb=some ([],jP,lS,[],GZ,GA,[],2,2):=rfl
theorem EK{b f:Option Z1}(h:∀x,ba b x=ba f x)(x:QK)(j p q u v:Int)(z:QJ):dp b x j p q u v z=dp f x j p q u v z:=by
 unfold dp;rw[h]
theorem H6:eF=some true:=by
 obtain⟨b,e,hb⟩:=JS;unfold eF;rw[CK];simp only[Option.bind,e,EK hb];kernel_rfl
end
end Go.Proofs.YtobbjfkfmdiklaaGreatDoor.T
