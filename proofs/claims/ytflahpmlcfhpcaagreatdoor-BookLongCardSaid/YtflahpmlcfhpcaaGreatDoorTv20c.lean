/- A text of noughts. -/
import Derived.Test.YtflahpmlcfhpcaaGreatDoorTv20b
namespace Go.Proofs.YtflahpmlcfhpcaaGreatDoor.T
open Go Go.Tv Go.Proofs
noncomputable section
theorem lJ{α:Type}{n i:Nat}(a d:α)(h:i<n):(List.replicate n a).getD i d=a:=by
 simp[List.getD_eq_getElem?_getD,List.getElem?_replicate,h]
abbrev zs(n:Nat):List Int:=List.replicate n 0
def up(n:Nat):List Int:=(List.range n).map fun i:Nat=>(i:Int)
theorem kV(n:Nat):(up n).length=n:=by simp[up]
theorem I6(n:Nat):up (n+1)=up n++[(n:Int)]:=by simp[up,List.range_succ]
theorem aB3{n i:Nat}(h:i<n):(up n).getD i 0=i:=by simp[up,List.getD_eq_getElem?_getD,h]
def sW(n:Nat):List (Int×Int×Int):=(List.range n).map fun i:Nat=>((0:Int),((i:Int),(1:Int)))
theorem gE(n:Nat):(sW n).length=n:=by simp[sW]
theorem aBg(n:Nat):sW (n+1)=sW n++[(0,((n:Int),1))]:=by simp[sW,List.range_succ]
theorem I0{n i:Nat}(h:i<n):(sW n).getD i (0,(0,0))=(0,((i:Int),1)):=by simp[sW,List.getD_eq_getElem?_getD,h]
theorem aFJ{n k:Nat}(h:k<n):oU (zs n) (k:Int)=some (0,((k:Int),1)):=by
 have h1:¬((k:Int)<0):=by omega
 have h2:¬((k:Int)≥((zs n).length:Int)):=by simp;omega
 have h3:0≤(k:Int)∧(k:Int)<((zs n).length:Int):=by simp;omega
 have h4:(zs n).getD k 0=0:=lJ _ _ h
 unfold oU
 simp only[h1,h2,decide_false,Bool.false_eq_true,if_false,Option.bind,h3,and_self,if_true,Int.toNat_natCast,h4]
 rfl
theorem aFK{n:Nat}(hn:n≤4096):l9 (zs n)=some (sW n):=by
 unfold l9
 have:iter (iV (zs n)) (sW 0,((0:Nat):Int))=some (sW n):=by
  refine dK (fun k=>(sW k,(k:Int))) n (fun k hk=> ?_) ?_
  ·have h1:(k:Int)<((zs n).length:Int):=by simp;omega
   simp only[iV,h1,decide_true,if_true,aFJ hk,Option.bind,List.length_singleton,gE]
   rw[if_pos (by omega),bV (by omega) (by omega),aBg]
   rfl
  ·have h1:¬((n:Int)<((zs n).length:Int)):=by simp
   simp only[iV,h1,decide_false,Bool.false_eq_true,if_false]
 exact congrArg (fun x=>Option.bind x fun o=>some o) this
theorem aCH{n k:Nat}{a b:Int}(h:k<n):(List.replicate k b++List.replicate (n - k) a).set k b=List.replicate (k+1) b++List.replicate (n - (k+1)) a:=by
 rw[List.set_append_right _ _ (by simp),List.length_replicate,Nat.sub_self,show n - k=(n - (k+1))+1 by omega,List.replicate_succ,List.set_cons_zero,List.replicate_succ',List.append_assoc]
 rfl
theorem aDs{n:Nat}(hn:n≤4096){t:Option ((Arr 4352)×List (Arr 256))}{f:Int→Int}(ht:nB t f)(h0:f 0=0):cE t (sW n)=some (zs n):=by
 have ht':aV t=fun r=>some (f r):=ht
 unfold cE
 rw[gE,if_pos (by omega)]
 have:iter (cS t (sW n)) (zs n,((0:Nat):Int))=some (zs n):=by
  refine dK (fun k=>(zs n,(k:Int))) n (fun k hk=> ?_) ?_
  ·have h1:(k:Int)<((sW n).length:Int):=by rw[gE];omega
   have h2:0≤(k:Int):=by omega
   have h3:(k:Int)<((zs n).length:Int):=by simp;omega
   have h4:k<(zs n).length:=by simp;omega
   have h5:(zs n).set k 0=zs n:=by
    refine List.ext_getElem? fun i=> ?_
    rw[List.getElem?_set]
    split
    ·rename_i e;subst e;simp[hk]
    ·rfl
   simp only[cS,h1,h2,h3,h4,and_self,decide_true,if_true,Int.toNat_natCast,I0 hk,ht',Option.bind,h0,h5]
   rw[bV (by omega) (by omega)]
   rfl
  ·have h1:¬((n:Int)<((sW n).length:Int)):=by rw[gE];omega
   simp only[cS,h1,decide_false,Bool.false_eq_true,if_false]
 rw[Int.toNat_natCast]
 exact congrArg (fun x=>Option.bind x fun o=>some o) this
/-! ### Machines -/
theorem aFX{n:Nat}(hn:n≤4096):b7 (zs n)=some (zs n):=by
 unfold b7
 have hset:∀k:Nat,(zs n).set k 0=zs n:=fun k=>by
  refine List.ext_getElem? fun i=> ?_
  rw[List.getElem?_set]
  split
  ·rename_i e;subst e;by_cases h:k<n <;> simp[h]
  ·rfl
 obtain⟨r,e1,e2⟩:=mI (body:=bU) (fun s=>s.1=zs n∧0≤s.2.1∧s.2.2<(n:Int)∧s.2.1≤(n:Int)) (fun s=>(n - s.2.1).toNat) (fun r=>r=zs n) (by
  rintro⟨l,i,j⟩ ⟨h0,h1,h2,h3⟩
  simp only at h0 h1 h2 h3
  subst h0
  by_cases h:i<j
  ·left
   refine⟨(zs n,i+1,j - 1),?_,⟨rfl,by simp only;omega,by simp only;omega,by simp only;omega⟩,by simp only;omega⟩
   have g1:0≤j∧j<((zs n).length:Int):=by simp;omega
   have g2:j.toNat<(zs n).length:=by simp;omega
   have g3:0≤i∧i<((zs n).length:Int):=by simp;omega
   have g4:i.toNat<(zs n).length:=by simp;omega
   have g5:(zs n).getD j.toNat 0=0:=lJ _ _ (by omega)
   have g6:(zs n).getD i.toNat 0=0:=lJ _ _ (by omega)
   simp only[bU,h,decide_true,if_true,g5,g6,hset]
   rw[if_pos g1,if_pos g2,if_pos g3,if_pos g4,if_pos g3,if_pos g4,if_pos g1,if_pos g2,bV (by omega) (by omega),bV (by omega) (by omega)]
  ·right
   exact⟨zs n,by simp[bU,h],rfl⟩) (s:=(zs n,0,IntKind.i64.wrap (((zs n).length:Int) - 1))) ⟨rfl,by simp,by simp only[List.length_replicate];rw[bV (by omega) (by omega)];omega,by simp only;omega⟩
 rw[e1,e2]
 rfl
theorem aEX{a:List (List Int)}{b:List Int}{s:Int}(h0:0<a.length)(hs:0≤s)(hs2:s<(a.length:Int))(c0:0<(a.getD 0 []).length)(c1:0<(a.getD s.toNat []).length)(e0:(a.getD 0 []).getD 0 0=s)(e1:(a.getD s.toNat []).getD 0 0=s){n:Nat}(hn:n≤4096):
  mS a b (zs n)=some (0::List.replicate n s):=by
 unfold mS
 have hne:((a.length:Int) == 0)=false:=by rw[beq_eq_false_iff_ne];omega
 rw[hne]
 have:iter (iS a (zs n)) ((0:Int)::List.replicate 0 s,(if(0:Nat)=0 then 0 else s),((0:Nat):Int))=some (0::List.replicate n s):=by
  refine dK (fun k=>((0:Int)::List.replicate k s,(if k=0 then 0 else s),(k:Int))) n (fun k hk=> ?_) ?_
  ·have h1:(k:Int)<((zs n).length:Int):=by simp;omega
   have h2:0≤(k:Int):=by omega
   have h3:(zs n).getD k 0=0:=lJ _ _ hk
   have hst:∃st:Int,(if k=0 then 0 else s)=st∧0≤st∧st<(a.length:Int)∧0<(a.getD st.toNat []).length∧(a.getD st.toNat []).getD 0 0=s:=by
    by_cases hk0:k=0
    ·exact⟨0,by rw[if_pos hk0],by omega,by omega,c0,e0⟩
    ·exact⟨s,by rw[if_neg hk0],hs,hs2,c1,e1⟩
   obtain⟨st,q0,q1,q2,q3,q4⟩:=hst
   simp only[q0]
   have h4:¬((0:Int)≥((a.getD st.toNat []).length:Int)):=by omega
   have h5:(0:Int)<((a.getD st.toNat []).length:Int):=by omega
   simp only[iS,h1,h2,q1,q2,h3,h4,h5,and_self,decide_true,decide_false,if_true,if_false,Bool.false_eq_true,Int.toNat_natCast,Option.bind,Int.lt_irrefl,Int.le_refl,Int.toNat_zero,q4,List.length_cons,List.length_replicate,List.length_nil]
   have h6:(k:Int)<(n:Int):=by omega
   simp only[h6,decide_true,and_self,if_true]
   rw[if_pos (by omega),bV (by omega) (by omega),if_neg (by omega),List.replicate_succ']
   rfl
  ·have h1:¬((n:Int)<((zs n).length:Int)):=by simp
   simp only[iS,h1,decide_false,Bool.false_eq_true,if_false]
 exact congrArg (fun x=>Option.bind x fun o=>some o) this
def oB(n:Nat)(d:Int):List Int:=0::(List.replicate (n - 1) d++[2])
structure ZM(m:Z5)(s t d:Int):Prop where
 cls:0<m.1.1.length
 base:(aZ .and .u32 (Int.fdiv m.1.2.2.1 (2 ^ (min 0 IntKind.u32.bits))) 1 == 1)=false
 tr:0<m.1.2.2.2.1.length∧m.1.2.2.2.1.getD 0 0=0
 a:0<m.2.1.1.length∧0≤s∧s<(m.2.1.1.length:Int)∧0<(m.2.1.1.getD 0 []).length∧0<(m.2.1.1.getD s.toNat []).length∧(m.2.1.1.getD 0 []).getD 0 0=s∧(m.2.1.1.getD s.toNat []).getD 0 0=s∧s<(m.2.1.2.length:Int)
 b:0<m.2.2.1.length∧0≤t∧t<(m.2.2.1.length:Int)∧0<(m.2.2.1.getD 0 []).length∧0<(m.2.2.1.getD t.toNat []).length∧(m.2.2.1.getD 0 []).getD 0 0=t∧(m.2.2.1.getD t.toNat []).getD 0 0=t∧t<(m.2.2.2.length:Int)
 both:(aZ .and .u32 (m.2.1.2.getD s.toNat 0) (m.2.2.2.getD t.toNat 0) != 0)=true
 tz:0≤y5 (aZ .and .u32 (m.2.1.2.getD s.toNat 0) (m.2.2.2.getD t.toNat 0))∧y5 (aZ .and .u32 (m.2.1.2.getD s.toNat 0) (m.2.2.2.getD t.toNat 0))<(m.1.2.2.2.2.length:Int) ∧
  (m.1.2.2.2.2.getD (y5 (aZ .and .u32 (m.2.1.2.getD s.toNat 0) (m.2.2.2.getD t.toNat 0))).toNat (0,((Tree.node 0 0 []),(Tree.node 0 0 [])))).1=d
theorem aEj{m:Z5}{s t d:Int}(h:ZM m s t d){n:Nat}(h1:1≤n)(hn:n≤4096):dP (some m) (zs n)=some (oB n d):=by
 have hL1:iter (dM (some m) (zs n)) (([]:List Int),([]:List Int),false,(0:Int))=some (up n,zs n):=by
  refine dK (fun k=>(up k,zs k,false,(k:Int))) n (fun k hk=> ?_) ?_
  ·have q1:(k:Int)<((zs n).length:Int):=by simp;omega
   have q2:0≤(k:Int):=by omega
   have q3:(zs n).getD k 0=0:=lJ _ _ hk
   have q4:¬((0:Int)≥(m.1.1.length:Int)):=by have:=h.cls;omega
   have q5:0≤(0:Int)∧(0:Int)<(m.1.2.2.2.1.length:Int):=by have:=h.tr.1;omega
   have q6:(m.1.2.2.2.1).getD 0 0=0:=h.tr.2
   have q7:((up k).length+([(k:Int)]:List Int).length)*8≤140737488355328∧(up k).length+([(k:Int)]:List Int).length≤9223372036854775807:=by rw[kV];simp;omega
   have q8:((zs k).length+([(0:Int)]:List Int).length)*8≤140737488355328∧(zs k).length+([(0:Int)]:List Int).length≤9223372036854775807:=by simp;omega
   have q9:up k++[(k:Int)]=up (k+1):=(I6 k).symm
   have q10:zs k++[(0:Int)]=zs (k+1):=(List.replicate_succ' ..).symm
   have q11:IntKind.i64.wrap ((k:Int)+1)=((k+1:Nat):Int):=by rw[bV (by omega) (by omega)];rfl
   simp only[dM,q1,q2,q3,q4,q5,q6,q7,q8,q9,q10,q11,and_self,decide_true,decide_false,if_true,if_false,Bool.false_eq_true,Int.toNat_natCast,Int.toNat_zero,Option.bind,Option.isSome,Option.getD,Int.lt_irrefl,Int.le_refl,h.base]
  ·have q1:¬((n:Int)<((zs n).length:Int)):=by simp
   simp only[dM,q1,decide_false,Bool.false_eq_true,if_false]
 have hA:=aEX (b:=m.2.1.2) h.a.1 h.a.2.1 h.a.2.2.1 h.a.2.2.2.1 h.a.2.2.2.2.1 h.a.2.2.2.2.2.1 h.a.2.2.2.2.2.2.1 hn
 have hB:=aEX (b:=m.2.2.2) h.b.1 h.b.2.1 h.b.2.2.1 h.b.2.2.2.1 h.b.2.2.2.2.1 h.b.2.2.2.2.2.1 h.b.2.2.2.2.2.2.1 hn
 have hset:(List.replicate (n+1) (0:Int)).set n 2=0::(List.replicate 0 d++(List.replicate (n - 1) 0++[2])):=by
  have:=aCH (n:=n+1) (k:=n) (a:=0) (b:=0) (by omega)
  rw[List.replicate_succ',List.set_append_right _ _ (by simp),List.length_replicate,Nat.sub_self]
  obtain⟨j,rfl⟩:∃j,n=j+1:=⟨n - 1,by omega⟩
  simp[List.replicate_succ]
 have hL2:iter (dN (some m) (up n) (0::List.replicate n s) (0::List.replicate n t)) (0::(List.replicate 0 d++(List.replicate (n - 1) 0++[2])),((0+1:Nat):Int))=some (oB n d):=by
  refine dK (fun j=>(0::(List.replicate j d++(List.replicate (n - 1 - j) 0++[2])),((j+1:Nat):Int))) (n - 1) (fun j hj=> ?_) ?_
  ·have hlen:(0::(List.replicate j d++(List.replicate (n - 1 - j) 0++[2]))).length=n+1:=by simp;omega
   have q1:((j+1:Nat):Int)<((up n).length:Int):=by rw[kV];omega
   have q2:0≤((j+1:Nat):Int):=by omega
   have q3:((j+1:Nat):Int)<((0::List.replicate n s).length:Int):=by simp;omega
   have q4:(0::List.replicate n s).getD (j+1) 0=s:=by rw[List.getD_cons_succ];exact lJ _ _ (by omega)
   have q5:IntKind.i64.wrap (((up n).length:Int) - ((j+1:Nat):Int))=((n - (j+1):Nat):Int):=by rw[kV,bV (by omega) (by omega)];omega
   have q6:0≤((n - (j+1):Nat):Int):=by omega
   have q7:((n - (j+1):Nat):Int)<((0::List.replicate n t).length:Int):=by simp;omega
   have q8:(0::List.replicate n t).getD (n - (j+1)) 0=t:=by
    obtain⟨e,he⟩:∃e,n - (j+1)=e+1:=⟨n - (j+1) - 1,by omega⟩
    rw[he,List.getD_cons_succ];exact lJ _ _ (by omega)
   have q9:j+1<(up n).length:=by rw[kV];omega
   have q10:(up n).getD (j+1) 0=((j+1:Nat):Int):=aB3 (by omega)
   have q11:((j+1:Nat):Int)<((n+1:Nat):Int):=by omega
   have q12:j+1<n+1:=by omega
   have q13:IntKind.i64.wrap (((j+1:Nat):Int)+1)=((j+1+1:Nat):Int):=by rw[bV (by omega) (by omega)];rfl
   have q14:∀v w:Int,((0::(List.replicate j d++(List.replicate (n - 1 - j) 0++[2]))).set (j+1) v).set (j+1) w=0::(List.replicate (j+1) w++(List.replicate (n - 1 - (j+1)) 0++[2]))→True:=fun _ _ _=>trivial
   have q15:((0::(List.replicate j d++(List.replicate (n - 1 - j) 0++[2]))).set (j+1) 1).set (j+1) d=0::(List.replicate (j+1) d++(List.replicate (n - 1 - (j+1)) 0++[2])):=by
    rw[List.set_set,List.set_cons_succ,List.set_append_right _ _ (by simp),List.length_replicate,Nat.sub_self]
    obtain⟨e,he⟩:∃e,n - 1 - j=e+1:=⟨n - 1 - j - 1,by omega⟩
    rw[he,show n - 1 - (j+1)=e by omega,List.replicate_succ,List.replicate_succ']
    simp
   have a8:=h.a.2.2.2.2.2.2.2
   have b8:=h.b.2.2.2.2.2.2.2
   simp only[dN,q1,q2,q3,q4,q5,q6,q7,q8,q9,q10,q11,q12,q13,q15,hlen,List.length_set,h.a.2.1,h.b.2.1,a8,b8,h.both,h.tz.1,h.tz.2.1,h.tz.2.2,fK,and_self,decide_true,if_true,Option.bind,Option.isSome,Option.getD,Int.toNat_natCast]
  ·have q1:¬(((n - 1+1:Nat):Int)<((up n).length:Int)):=by rw[kV];omega
   simp only[dN,q1,decide_false,Bool.false_eq_true,if_false,Nat.sub_self,List.replicate_zero,List.nil_append]
   rfl
 have hw:IntKind.i64.wrap (((zs n).length:Int)+1)=((n+1:Nat):Int):=by rw[List.length_replicate,bV (by omega) (by omega)];rfl
 unfold dP
 simp only[hw,Int.toNat_natCast,hL1,hA,hB,aFX hn,Option.bind,Option.isNone,Option.isSome,Option.getD,Bool.false_eq_true,if_false,if_true]
 rw[if_pos (by omega),if_pos (by simp;omega),if_pos (by simp),List.length_replicate,hset]
 have:=hL2
 simp only[Nat.zero_add]at this
 rw[show((1:Nat):Int)=1 from rfl]at this
 rw[this]
def m1L:Z5:=(([[79]],0,0,[0],[(1,Tree.node 1 1 [],Tree.node 1 1 [])]),([[1],[1]],[0,1]),[[1],[1]],[0,1])
def m2L:Z5:=(([[79],[83],[78]],0,0,[0,1,2],[(0,Tree.node 1 2 [],Tree.node 1 2 []),(1,Tree.node 1 2 [],Tree.node 1 7 []),(2,Tree.node 1 4 [],Tree.node 1 7 []),(0,Tree.node 1 7 [],Tree.node 1 7 [])]),
 ([[1,2,3],[1,2,3],[1,2,3],[1,2,3]],[0,8,11,12]),[[1,2,1],[1,2,1],[1,2,1]],[0,14,15])
theorem aCx:X9=some m1L:=by kernel_rfl
theorem aCD:U2=some m2L:=by kernel_rfl
theorem z1:ZM m1L 1 1 1:=⟨by decide,by decide,by decide,by decide,by decide,by decide,⟨by decide,by decide,rfl⟩⟩
theorem z2:ZM m2L 1 1 0:=⟨by decide,by decide,by decide,by decide,by decide,by decide,⟨by decide,by decide,rfl⟩⟩
theorem aCz:dZ exH 0=some (0,false):=by kernel_rfl
theorem aFy:fD exH []=some [false]:=by kernel_rfl
theorem aC5{n:Nat}(hn:n≤4096):dB exH (sW n)=some (List.replicate (n+1) false):=by
 have hw:IntKind.i64.wrap (((sW n).length:Int)+1)=((n+1:Nat):Int):=by rw[gE,bV (by omega) (by omega)];rfl
 have hL:iter (cM exH (sW n)) (List.replicate (n+1) false,((0:Nat):Int))=some (List.replicate (n+1) false):=by
  refine dK (fun k=>(List.replicate (n+1) false,(k:Int))) n (fun k hk=> ?_) ?_
  ·have q1:(k:Int)<((sW n).length:Int):=by rw[gE];omega
   have q2:0≤(k:Int):=by omega
   have hin:iter (dD exH (sW n)) ((k:Int),([]:List Int))=some ((k:Int),[]):=by
    refine gP ?_
    simp only[dD,q1,q2,and_self,decide_true,if_true,Int.toNat_natCast,I0 hk,aCz,Option.bind,Bool.not_false]
   have q3:IntKind.i64.wrap ((k:Int)+1)=((k+1:Nat):Int):=by rw[bV (by omega) (by omega)];rfl
   have q4:0≤(k:Int)∧(k:Int)≤((List.replicate (n+1) false).length:Int):=by simp;omega
   simp only[cM,q1,decide_true,if_true,hin,Option.bind,q4,and_self,aFy,q3]
   simp
   omega
  ·have q1:¬((n:Int)<((sW n).length:Int)):=by rw[gE];omega
   simp only[cM,q1,decide_false,Bool.false_eq_true,if_false]
 unfold dB
 rw[hw,if_pos (by omega),Int.toNat_natCast]
 exact congrArg (fun x=>Option.bind x fun o=>some o) hL
/-! ### Clusters,and what may be done -/
def lE(n:Nat):List (Int×Int×Int×Int):=(List.range n).map fun i:Nat=>((i:Int),((1:Int),((0:Int),(0:Int))))
theorem iQ(n:Nat):(lE n).length=n:=by simp[lE]
theorem aBD(n:Nat):lE (n+1)=lE n++[((n:Int),(1,(0,0)))]:=by simp[lE,List.range_succ]
theorem H7{n i:Nat}(h:i<n)(d:Int×Int×Int×Int):(lE n).getD i d=((i:Int),(1,(0,0))):=by simp[lE,List.getD_eq_getElem?_getD,h]
theorem yS{n:Nat}(h:1≤n)(d:Int):(oB n d).length=n+1:=by simp[oB];omega
theorem T5{n i:Nat}(h:1≤i)(hi:i<n)(d:Int):(oB n d).getD i 0=d:=by
 obtain⟨j,rfl⟩:∃j,i=j+1:=⟨i - 1,by omega⟩
 simp[oB,List.getD_eq_getElem?_getD,List.getElem?_append_left (show j<(List.replicate (n - 1) d).length by simp;omega),show j<n - 1 by omega]
theorem aDB{n:Nat}(h1:1≤n)(hn:n≤4096){t:Option ((Arr 4352)×List (Arr 256))}{f:Int→Int}(ht:nB t f)(h0:f 0=0):iL (sW n) (oB n 1) t=some (lE n,up (n+1)):=by
 have ht':aV t=fun r=>some (f r):=ht
 have hL:iter (e9 (sW n) (oB n 1) t) (([]:List (Int×Int×Int×Int)),([]:List Int),(0:Int))=some (lE n,up n):=by
  refine dK (fun k=>(lE k,up k,(k:Int))) n (fun k hk=> ?_) ?_
  ·have q1:(k:Int)<((sW n).length:Int):=by rw[gE];omega
   have q2:0≤(k:Int):=by omega
   have q3:(if((k:Int) == (0:Int))=true then some true
     else if decide ((k:Int)<((oB n 1).length:Int))=true then(if True∧(k:Int)<((oB n 1).length:Int)then some ((oB n 1).getD k (0:Int) != (0:Int))else none)else some false)=some true:=by
    by_cases hk0:k=0
    ·subst hk0;rfl
    ·have e1:((k:Int) == 0)=false:=by rw[beq_eq_false_iff_ne];omega
     have e2:(k:Int)<((oB n 1).length:Int):=by rw[yS h1];omega
     simp only[e1,e2,and_self,decide_true,if_true,Bool.false_eq_true,if_false,T5 (show 1≤k by omega) hk]
     rfl
   have q4:IntKind.i64.wrap ((k:Int)+1)=((k+1:Nat):Int):=by rw[bV (by omega) (by omega)];rfl
   have q5:IntKind.i64.wrap (((k+1:Nat):Int) - 1)=(k:Int):=by rw[bV (by omega) (by omega)];omega
   have q6:∀x:Int×Int×Int×Int,(lE k++[x]).length=k+1:=fun x=>by simp[iQ]
   have q7:(up k++[(k:Int)]).length=k+1:=by simp[kV]
   have q8:(k:Int)<((k+1:Nat):Int):=by omega
   have q9:k<k+1:=by omega
   have q10:(up k++[(k:Int)]).getD k 0=(k:Int):=by simp[List.getD_eq_getElem?_getD,kV]
   have q11:∀x d:Int×Int×Int×Int,(lE k++[x]).getD k d=x:=fun x d=>by simp[List.getD_eq_getElem?_getD,iQ]
   have q12:∀x y:Int×Int×Int×Int,(lE k++[x]).set k y=lE k++[y]:=fun x y=>by rw[List.set_append_right _ _ (by rw[iQ];exact Nat.le_refl _),iQ,Nat.sub_self];rfl
   have q13:mU 0=some 0:=rfl
   have q14:((k:Int) != (k:Int))=false:=by simp
   have g1:((lE k).length+([((k:Int),((0:Int),((0:Int),(0:Int))))]:List (Int×Int×Int×Int)).length)*32≤140737488355328∧(lE k).length+([((k:Int),((0:Int),((0:Int),(0:Int))))]:List (Int×Int×Int×Int)).length≤9223372036854775807:=by rw[iQ];simp;omega
   have g2:((up k).length+([(k:Int)]:List Int).length)*8≤140737488355328∧(up k).length+([(k:Int)]:List Int).length≤9223372036854775807:=by rw[kV];simp;omega
   simp only[e9,q1,q2,and_self,decide_true,if_true,Int.toNat_natCast,I0 hk]
   rw[q3]
   simp only[q2,and_self,decide_true,if_true,Option.bind,Int.toNat_natCast,q13,g1,g2,q4,q5,q6,q7,q8,q9,q10,q11,q12,q14,Bool.false_eq_true,if_false,ht',h0]
   rw[aBD,I6]
   rfl
  ·have q1:¬((n:Int)<((sW n).length:Int)):=by rw[gE];omega
   simp only[e9,q1,decide_false,Bool.false_eq_true,if_false]
 unfold iL
 simp only[hL,Option.bind,gE]
 rw[if_pos (by rw[kV];simp;omega),I6]
def gQ(n:Nat):List Int:=List.replicate n 0++[2]
theorem aD1{n:Nat}(h1:1≤n)(hn:n≤4096){t:Option ((Arr 4352)×List (Arr 256))}{f:Int→Int}(ht:nB t f)(h0:f 0=0):fL (sW n) (oB n 1) (oB n 0) (List.replicate (n+1) false) t=some (lE n,gQ n):=by
 have hL:iter (dW (sW n) (oB n 0) (List.replicate (n+1) false) (up (n+1))) (([]:List Int),(0:Int))=some (gQ n):=by
  refine dK (fun k=>(if k≤n then List.replicate k 0 else gQ n,(k:Int))) (n+1) (fun k hk=> ?_) ?_
  ·have q1:(k:Int)<((up (n+1)).length:Int):=by rw[kV];omega
   have q2:0≤(k:Int):=by omega
   have q3:(up (n+1)).getD k 0=(k:Int):=aB3 hk
   have q4:IntKind.i64.wrap ((k:Int)+1)=((k+1:Nat):Int):=by rw[bV (by omega) (by omega)];rfl
   have hkn:k≤n:=by omega
   have g:∀v:Int,((List.replicate k (0:Int)).length+([v]:List Int).length)*1≤140737488355328∧(List.replicate k (0:Int)).length+([v]:List Int).length≤9223372036854775807:=fun v=>by simp;omega
   by_cases hke:k=n
   ·subst hke
    have e1:((k:Int) == ((sW k).length:Int))=true:=by rw[gE];simp
    simp only[dW,q1,q2,q3,q4,e1,g,and_self,decide_true,if_true,Option.bind,Int.toNat_natCast,Nat.le_refl]
    rw[if_neg (by omega)]
    rfl
   ·have e1:((k:Int) == ((sW n).length:Int))=false:=by rw[gE,beq_eq_false_iff_ne];omega
    by_cases hk0:k=0
    ·have e2:((k:Int) == 0)=true:=by rw[hk0];rfl
     have hk1:k+1≤n:=by omega
     simp only[dW,q1,q2,q3,q4,e1,e2,g,hkn,hk1,and_self,decide_true,if_true,Option.bind,Int.toNat_natCast,Bool.false_eq_true,if_false]
     rw[List.replicate_succ']
    ·have e2:((k:Int) == 0)=false:=by rw[beq_eq_false_iff_ne];omega
     have e3:¬((k:Int)≥((oB n 0).length:Int)):=by rw[yS h1];omega
     have e4:(k:Int)<((oB n 0).length:Int):=by rw[yS h1];omega
     have e5:(oB n 0).getD k 0=0:=T5 (by omega) (by omega) 0
     have e6:(k:Int)<((List.replicate (n+1) false).length:Int):=by simp;omega
     have e7:(List.replicate (n+1) false).getD k false=false:=lJ _ _ (by omega)
     have hk1:k+1≤n:=by omega
     simp only[dW,q1,q2,q3,q4,e1,e2,e3,e4,e5,e6,e7,g,hkn,hk1,and_self,decide_true,decide_false,if_true,Option.bind,Int.toNat_natCast,Bool.false_eq_true,if_false,BEq.rfl]
     rw[List.replicate_succ']
  ·have q1:¬(((n+1:Nat):Int)<((up (n+1)).length:Int)):=by rw[kV];omega
   simp only[dW,q1,decide_false,Bool.false_eq_true,if_false]
   rw[if_neg (by omega)]
 unfold fL
 simp only[aDB h1 hn ht h0,Option.bind,hL]
theorem aDe{n:Nat}(h1:1≤n)(hn:n≤4096):bG exB (zs n)=some ((lE n,gQ n),0):=by
 have f1:nB (some (Z0 [])) (R0 []):=j6 jX.1
 have f2:nB (some (Z0 gB)) (R0 gB):=j6 jX.2.1
 have f3:nB (some (Z0 iN)) (R0 iN):=j6 jX.2.2
 have hlen:¬(((zs n).length:Int) > 4096):=by simp;omega
 unfold bG exB
 simp only[Option.getD,Option.isNone,Option.isSome,hlen,decide_false,Bool.false_eq_true,if_false,if_true,Option.bind,aFK hn,aDs hn f1 (by decide),aDs hn f2 (by decide),aCx,aCD,aEj z1 h1 hn,aEj z2 h1 hn,aC5 hn,aD1 h1 hn f3 (by decide)]
end
end Go.Proofs.YtflahpmlcfhpcaaGreatDoor.T
