/- Least: number is its spec. -/
import Derived.Test.YtacpjjgochokcaaDoorTv06lcm
import Derived.Test.YtacpjjgochokcaaDoorTvT06xa
import Derived.KernelRfl
namespace Go.Proofs.YtacpjjgochokcaaDoor.T
open Go Go.Tv Go.Proofs
def iE(l:List Nat):List Int:=l.map fun(x:Nat)=>(x:Int)
theorem dU(l:List Nat):(iE l).length=l.length:=by simp[iE]
theorem pR{l:List Nat}{i:Nat}(hi:i<l.length):((iE l).getD i 0)=((l.getD i 0:Nat):Int):=by
 simp[iE,List.getD_eq_getElem?_getD,hi]
theorem O5(l:List Nat)(t:Nat):iE (l++[t])=iE l++[(t:Int)]:=by simp[iE]
theorem wX{nx:List (List Int)}{ot:List Int}{n c:Nat}(h:OkA nx ot n c){s:Nat}(hs:s<n):∀t∈fD nx s,t<n:=fun t ht=>by
 simp only[fD,List.mem_map]at ht
 obtain⟨x,hx,rfl⟩:=ht
 obtain⟨j,hj⟩:=List.mem_iff_getElem?.1 hx
 have hjl:j<c:=by rw[←h.row s hs];exact(List.getElem?_eq_some_iff.1 hj).1
 have hw:=h.way s j hs hjl
 have:(nx.getD s []).getD j 0=x:=by
  generalize nx.getD s []=l at hj
  rw[List.getD_eq_getElem?_getD,hj];rfl
 omega
section
variable{nx:List (List Int)}{ot:List Int}{n c:Nat}(h:OkA nx ot n c){kd:Nat→Int}{M:Nat}(hM:M≤1000)(hk:∀s,s<n→0≤kd s∧kd s<M)
include h hM hk
theorem aBZ{ln:List Nat}(hl:Lane kd n M ln){i:Nat}(hi:i<ln.length):
  iter (eP nx ((List.range n).map kd) (iE ln) (i:Int)) (cN kd M ln,iE ln,([]:List Int),(0:Int)) =
   some (cN kd M (fW kd ln (fD nx (ln.getD i 0)) []).1,iE (fW kd ln (fD nx (ln.getD i 0)) []).1,(fW kd ln (fD nx (ln.getD i 0)) []).2):=by
 have hsm:=h.small
 have hs:ln.getD i 0<n:=by
  rw[List.getD_eq_getElem?_getD,List.getElem?_eq_getElem hi]
  exact hl.lt _ (List.getElem_mem hi)
 generalize hsd:ln.getD i 0=s at hs ⊢
 have e1:((iE ln).getD i 0).toNat=s:=by rw[pR hi,hsd];simp
 have hrow:=h.row s hs
 have hcs:=h.cs
 have hpl:∀l,(cN kd M l).length=M:=fun l=>by simp[cN]
 have hwl:(fD nx s).length=c:=by unfold fD;rw[List.length_map,hrow]
 have hall:=wX h hs
 have hi2:=bZ (body:=eP nx ((List.range n).map kd) (iE ln) (i:Int))
  (fun k=>(cN kd M (fW kd ln ((fD nx s).take k) []).1,iE (fW kd ln ((fD nx s).take k) []).1,(fW kd ln ((fD nx s).take k) []).2,(k:Int))) c
  (r:=(cN kd M (fW kd ln (fD nx s) []).1,iE (fW kd ln (fD nx s) []).1,(fW kd ln (fD nx s) []).2)) (fun k hkc=>by
   have hw:=h.way s k hs hkc
   have hg:(fD nx s)[k]? = some ((nx.getD s []).getD k 0).toNat:=by
    have hkl:k<(nx.getD s []).length:=by omega
    unfold fD
    generalize nx.getD s []=l at hkl
    rw[List.getElem?_map,List.getD_eq_getElem?_getD,List.getElem?_eq_getElem hkl];rfl
   have hL:=Lane.walked ((fD nx s).take k) ln [] hl (fun t ht=>hall t (List.mem_of_mem_take ht))
   have hln:=hL.le hk
   have hr:=V7 (kd:=kd) ((fD nx s).take k) ln []
   have htk:(fD nx s).take (k+1)=(fD nx s).take k++[((nx.getD s []).getD k 0).toNat]:=by rw[List.take_add_one,hg];rfl
   rw[htk,G4]
   simp only[List.length_take,List.length_nil,hwl]at hr
   generalize hW:fW kd ln ((fD nx s).take k) []=W at hL hln hr
   obtain⟨L,r⟩:=W
   simp only at hL hln hr ⊢
   simp only[eP,Int.toNat_natCast,e1]
   generalize hT:(nx.getD s []).getD k 0=tI at hw
   have ekd:((List.range n).map kd).getD tI.toNat 0=kd tI.toNat:=fH (by omega)
   have hkt:=hk tI.toNat (by omega)
   have hln2:((List.range n).map kd).length=n:=by simp
   have hcast:((kd tI.toNat).toNat:Int)=kd tI.toNat:=by omega
   rw[ekd,if_pos (by simp only[decide_eq_true_eq];omega),if_pos ⟨by omega,by omega⟩,if_pos ⟨by omega,by omega⟩,if_pos ⟨by omega,by rw[hpl];omega⟩,if_pos (by rw[hpl];omega)]
   have hpg:(cN kd M L).getD (kd tI.toNat).toNat 0=if kd tI.toNat∈L.map kd then((L.map kd).idxOf (kd tI.toNat):Int)else -1:=by
    rw[wD (by omega),hcast]
   have hwr:IntKind.i64.wrap ((k:Int)+1)=((k+1:Nat):Int):=by rw[aR (by omega) (by omega)];omega
   by_cases hm:kd tI.toNat∈L.map kd
   ·rw[if_neg (by rw[hpg,if_pos hm];simp only[decide_eq_true_eq];omega)]
    simp only[Option.bind_some]
    rw[if_pos ⟨by omega,by omega⟩,if_pos ⟨by omega,by rw[hpl];omega⟩,if_pos (by rw[hpl];omega),if_pos ⟨by simp only[List.length_cons,List.length_nil];omega,by simp only[List.length_cons,List.length_nil];omega⟩,hpg,if_pos hm,hwr]
    simp only[qS,if_pos hm]
   ·have e2:=vB (M:=M) hkt.1 hkt.2 hm
    rw[if_pos (by rw[hpg,if_neg hm];rfl),if_pos ⟨by omega,by omega⟩,if_pos ⟨by omega,by rw[hpl];omega⟩,if_pos (by rw[hpl];omega),if_pos ⟨by simp only[dU,List.length_cons,List.length_nil];omega,by simp only[dU,List.length_cons,List.length_nil];omega⟩]
    simp only[Option.bind_some,dU]
    have htc:((tI.toNat:Nat):Int)=tI:=by omega
    have e3:iE L++([tI]:List Int)=iE (L++[tI.toNat]):=by rw[O5,htc]
    rw[e2,e3,if_pos ⟨by omega,by omega⟩,if_pos ⟨by omega,by rw[hpl];omega⟩,if_pos (by rw[hpl];omega),if_pos ⟨by simp only[List.length_cons,List.length_nil];omega,by simp only[List.length_cons,List.length_nil];omega⟩,hwr]
    have hpg2:(cN kd M (L++[tI.toNat])).getD (kd tI.toNat).toNat 0=((L.map kd).idxOf (kd tI.toNat):Int):=by
     rw[wD (by omega),hcast,List.map_append]
     simp only[List.map_cons,List.map_nil]
     rw[if_pos (by simp),tC hm,List.idxOf_eq_length hm]
    rw[hpg2]
    simp only[qS,if_neg hm])
  (by
   simp only[eP,Int.toNat_natCast,e1]
   rw[if_neg (by simp only[decide_eq_true_eq];omega),List.take_of_length_le (by omega)])
 exact hi2
end
end Go.Proofs.YtacpjjgochokcaaDoor.T
namespace Go.Proofs.YtacpjjgochokcaaDoor.T
open Go Go.Tv Go.Proofs
section
variable{nx:List (List Int)}{ot:List Int}{n c:Nat}(h:OkA nx ot n c){kd:Nat→Int}{M:Nat}(hM:M≤1000)(hk:∀s,s<n→0≤kd s∧kd s<M)
include h hM hk
theorem C8:∃r,iter (rG kd nx ot) (([]:List (List Int)),([]:List Int),[0],0)=some r∧True:=by
 refine cC (body:=rG kd nx ot) (fun st=>Lane kd n M st.2.2.1) (fun st=>(M - st.2.2.1.length)*(M+1)+(st.2.2.1.length - st.2.2.2)) (fun _=>True) ?_ (s:=(([]:List (List Int)),([]:List Int),[0],0)) ⟨by simp,by simp[h.pos]⟩
 rintro⟨N,O,ln,i⟩ hl
 simp only at hl
 simp only[rG]
 by_cases hi:i<ln.length
 ·left
  rw[if_pos hi]
  have hs:ln.getD i 0<n:=by
   rw[List.getD_eq_getElem?_getD,List.getElem?_eq_getElem hi]
   exact hl.lt _ (List.getElem_mem hi)
  have h2:=Lane.walked (fD nx (ln.getD i 0)) ln [] hl (wX h hs)
  refine⟨_,rfl,h2,?_⟩
  obtain⟨l,e⟩:=l7 (kd:=kd) (ts:=fD nx (ln.getD i 0)) (ln:=ln) (r:=[])
  have h3:=h2.le hk
  rw[e]at h3
  simp only[e,List.length_append]at h3 ⊢
  have h4:(M - (ln.length+l.length))*(M+1)+l.length*(M+1)=(M - ln.length)*(M+1):=by rw[←Nat.add_mul];congr 1;omega
  have h5:l.length≤l.length*(M+1):=Nat.le_mul_of_pos_right _ (by omega)
  omega
 ·right
  rw[if_neg hi]
  exact⟨_,rfl,trivial⟩
theorem aBX(hmost:((List.range n).map kd).foldl max 0=(M:Int) - 1):hU nx ot ((List.range n).map kd)=iter (rG kd nx ot) (([]:List (List Int)),([]:List Int),[0],0):=by
 obtain⟨r,hr,_⟩:=C8 h hM hk
 rw[hr]
 have hsm:=h.small
 have hn:=h.hn
 have ho:=h.ho
 have hp:=h.pos
 have hk0:=hk 0 hp
 have hpl:∀l,(cN kd M l).length=M:=fun l=>by simp[cN]
 obtain⟨r',h1,h2⟩:=aCc (body:=rG kd nx ot) (body':=fX nx ot ((List.range n).map kd))
  (fun st st'=>st'.1=st.1∧st'.2.1=st.2.1∧st'.2.2.1=cN kd M st.2.2.1∧st'.2.2.2.1=iE st.2.2.1∧st'.2.2.2.2=(st.2.2.2:Int)∧Lane kd n M st.2.2.1∧st.1.length=st.2.2.2∧st.2.1.length=st.2.2.2∧st.2.2.2≤st.2.2.1.length)
  (fun r r'=>r'=r)
  (fun⟨N,O,ln,i⟩ ⟨N',O',pl,line,i'⟩ o ⟨e1,e2,e3,e4,e5,hl,l1,l2,l3⟩ hb=>by
   simp only at e1 e2 e3 e4 e5 hl l1 l2 l3
   subst e1 e2 e3 e4 e5
   have hle:=hl.le hk
   simp only[rG]at hb
   by_cases hi:i<ln.length
   ·rw[if_pos hi]at hb
    obtain rfl:=Option.some.inj hb
    have hs:ln.getD i 0<n:=by
     rw[List.getD_eq_getElem?_getD,List.getElem?_eq_getElem hi]
     exact hl.lt _ (List.getElem_mem hi)
    have h2:=Lane.walked (fD nx (ln.getD i 0)) ln [] hl (wX h hs)
    obtain⟨l,eg⟩:=l7 (kd:=kd) (ts:=fD nx (ln.getD i 0)) (ln:=ln) (r:=[])
    have hlg:i<(fW kd ln (fD nx (ln.getD i 0)) []).1.length:=by rw[eg,List.length_append];omega
    have hgg:(fW kd ln (fD nx (ln.getD i 0)) []).1.getD i 0=ln.getD i 0:=by
     rw[eg,List.getD_eq_getElem?_getD,List.getD_eq_getElem?_getD,List.getElem?_append_left hi]
    have g1:=pR hi
    have g2:=pR hlg
    rw[hgg]at g2
    refine⟨.inl (N'++[(fW kd ln (fD nx (ln.getD i 0)) []).2],O'++[ot.getD (ln.getD i 0) 0],cN kd M (fW kd ln (fD nx (ln.getD i 0)) []).1,iE (fW kd ln (fD nx (ln.getD i 0)) []).1,((i+1:Nat):Int)),?_,rfl,rfl,rfl,rfl,rfl,h2,by simp[l1],by simp[l2],hlg⟩
    simp only[fX]
    rw[if_pos (by simp only[dU,decide_eq_true_eq];omega),if_pos ⟨by omega,by rw[dU];omega⟩,if_pos (by rw[dU];omega)]
    simp only[Int.toNat_natCast]
    rw[g1,if_pos ⟨by omega,by omega⟩,aBZ h hM hk hl hi]
    simp only[Option.bind_some]
    rw[if_pos ⟨by simp only[List.length_cons,List.length_nil];omega,by simp only[List.length_cons,List.length_nil];omega⟩,if_pos ⟨by omega,by rw[dU];omega⟩,if_pos (by rw[dU];omega),g2,if_pos ⟨by omega,by omega⟩]
    rw[if_pos ⟨by simp only[List.length_cons,List.length_nil];omega,by simp only[List.length_cons,List.length_nil];omega⟩,aR (by omega) (by omega)]
    simp only[Int.toNat_natCast]
    rfl
   ·rw[if_neg hi]at hb
    obtain rfl:=Option.some.inj hb
    refine⟨.inr (N',O'),?_,rfl⟩
    simp only[fX]
    rw[if_neg (by simp only[dU,decide_eq_true_eq];omega)])
  (s:=(([]:List (List Int)),([]:List Int),[0],0)) (s':=(([]:List (List Int)),([]:List Int),cN kd M [0],[(0:Int)],(0:Int)))
  ⟨rfl,rfl,rfl,rfl,rfl,⟨by simp,by simp[hp]⟩,rfl,rfl,by simp⟩ hr
 have hfill:iter (eM ((M:Int) - 1)) (List.replicate M (0:Int),(0:Int))=some (List.replicate M (-1:Int)):=by
  have hwM:IntKind.i64.wrap ((M:Int) - 1+1)=(M:Int):=by rw[aR (by omega) (by omega)];omega
  have:=bZ (body:=eM ((M:Int) - 1)) (fun k=>(List.replicate k (-1:Int)++List.replicate (M - k) (0:Int),(k:Int))) M (r:=List.replicate M (-1:Int)) (fun k hkM=>by
   simp only[eM,hwM,Int.toNat_natCast,List.length_replicate]
   rw[if_pos (by simp only[decide_eq_true_eq];omega),if_pos ⟨by omega,by simp only[List.length_append,List.length_replicate];omega⟩,if_pos (by simp only[List.length_append,List.length_replicate];omega),aR (by omega) (by omega)]
   have e:(List.replicate k (-1:Int)++List.replicate (M - k) (0:Int)).set k (-1:Int)=List.replicate (k+1) (-1:Int)++List.replicate (M - (k+1)) (0:Int):=by
    rw[List.set_append_right _ _ (by simp),List.length_replicate,Nat.sub_self,show M - k=(M - (k+1))+1 by omega,List.replicate_succ,List.set_cons_zero,List.replicate_succ',List.append_assoc]
    rfl
   rw[e]
   rfl) (by
    simp only[eM,hwM,Int.toNat_natCast,List.length_replicate]
    rw[if_neg (by simp)]
    simp)
  simpa using this
 unfold hU
 rw[aBg _ (by simp;omega),hmost]
 simp only[Option.bind_some]
 have hwM:IntKind.i64.wrap ((M:Int) - 1+1)=(M:Int):=by rw[aR (by omega) (by omega)];omega
 have hMp:0<M:=by omega
 have ek0:((List.range n).map kd).getD ((0:Int).toNat) 0=kd 0:=fH hp
 have hset:(List.replicate M (-1:Int)).set (kd 0).toNat (0:Int)=cN kd M [0]:=by
  have e:=vB (kd:=kd) (M:=M) (ln:=[]) (t:=0) hk0.1 hk0.2 (by simp)
  have e2:cN kd M []=List.replicate M (-1:Int):=by
   unfold cN
   refine List.ext_getElem? fun k=> ?_
   rw[List.getElem?_map,List.getElem?_replicate]
   rcases Nat.lt_or_ge k M with hkm | hkm
   ·rw[List.getElem?_range hkm,if_pos hkm];simp
   ·rw[List.getElem?_eq_none (by simp;omega),if_neg (by omega)];rfl
  rw[e2]at e
  exact e
 rw[hwM,if_pos ⟨by omega,by omega,by omega,by omega⟩,Int.toNat_natCast,hfill]
 simp only[Option.bind_some]
 rw[ek0,if_pos ⟨by omega,by simp;omega⟩,if_pos ⟨by omega,by simp only[List.length_replicate];omega⟩,if_pos (by simp only[List.length_replicate];omega),hset,h1,h2]
 rfl
end
end Go.Proofs.YtacpjjgochokcaaDoor.T
namespace Go.Proofs.YtacpjjgochokcaaDoor.T
open Go Go.Tv Go.Proofs
inductive All2(R:Nat→Nat→Prop):List Nat→List Nat→Prop where
 | nil:All2 R [] []
 | cons {a b:Nat} {l m:List Nat}:R a b→All2 R l m→All2 R (a::l) (b::m)
section
variable{R:Nat→Nat→Prop}
theorem All2.length:∀ {l m:List Nat},All2 R l m→l.length=m.length
 | _,_,.nil=>rfl
 | _,_,.cons _ h=>by simp[h.length]
theorem All2.get:∀ {l m:List Nat},All2 R l m→∀ {i:Nat},i<l.length→R (l.getD i 0) (m.getD i 0)
 | _,_,.cons h _,0,_=>h
 | _,_,.cons _ h,i+1,hi=>by simpa using h.get (i:=i) (by simpa using hi)
theorem All2.snoc{a b:Nat}(hab:R a b):∀ {l m:List Nat},All2 R l m→All2 R (l++[a]) (m++[b])
 | _,_,.nil=> .cons hab .nil
 | _,_,.cons h r=> .cons h (r.snoc hab)
variable{kd kd':Nat→Int}(Rk:∀s t s' t',R s t→R s' t'→(kd s=kd s'↔kd' t=kd' t'))
include Rk
end
end Go.Proofs.YtacpjjgochokcaaDoor.T
namespace Go.Proofs.YtacpjjgochokcaaDoor.T
open Go Go.Tv Go.Proofs
def aIR(x:List (List Int)×List Int):Prop:=x.1.length≤1000∧x.2.length=x.1.length∧∀l∈x.1,l.length≤1000
end Go.Proofs.YtacpjjgochokcaaDoor.T
namespace Go.Proofs.YtacpjjgochokcaaDoor.T
open Go Go.Tv Go.Proofs
section
variable{d1 i1:List Int}{x1:Int}{c:Nat}(hc:IntKind.i64.wrap (Int.tmod x1 (4:Int))=(c:Int))(hc4:c≤3)(hi:i1.length≤9223372036854775807)
include hc hc4 hi
def aAF(d1:List Int)(n:Nat):List Int:=(List.range n).map fun i=>Int.tmod (d1.getD i 0) 3
end
end Go.Proofs.YtacpjjgochokcaaDoor.T
namespace Go.Proofs.YtacpjjgochokcaaDoor.T
open Go Go.Tv Go.Proofs
end Go.Proofs.YtacpjjgochokcaaDoor.T
namespace Go.Proofs.YtacpjjgochokcaaDoor.T
open Go Go.Tv Go.Proofs
section
variable{nx:List (List Int)}{ot:List Int}{n c:Nat}(h:OkA nx ot n c)(h5:n≤500){x2:List Int}(hx:x2.length≤9223372036854775807)
include h h5
end
end Go.Proofs.YtacpjjgochokcaaDoor.T
namespace Go.Proofs.YtacpjjgochokcaaDoor.T
open Go Go.Tv Go.Proofs
section
variable{nx:List (List Int)}{ot:List Int}{n c:Nat}(h:OkA nx ot n c)(h5:n≤500){x2:List Int}(hx:x2.length≤9223372036854775807)
include h h5 hx
end
end Go.Proofs.YtacpjjgochokcaaDoor.T
