/- A law's arguments: all together; what they read as stays. -/
import Derived.Test.YtmcemnfjddoejaaGreatDoorTv23zcm
import Derived.Carry
namespace Go.Tv
open Go Go.RowKit
open Go.IntKind (i64 u64)
def KH:List Ty→Type
 | []=>Unit
 | T::Ts=>T.den×KH Ts
def IU(T:Ty)(x:T.den):ag:=if T.scalar then .p false T x else .agg (flat false T x)
def Kc:(Ts:List Ty)→KH Ts→List ag
 | [],_=>[]
 | T::Ts,x=>IU T x.1::Kc Ts x.2
def LR:(Ts:List Ty)→KH Ts→Prop
 | [],_=>True
 | T::Ts,x=>Wf T x.1∧LR Ts x.2
section
variable{H:Type}{en:TypeId×Value→H}{P:Program}{w:World}{sp:Nat→Bool}{held:Bool}
theorem AE{t:TypeId}{n:Nat}{T:Ty}(c:ur P n t=some T){r:Reach}{base:Nat}{v:Value}(h:Value.okWide P w r base t v):(∃f,v = .agg f)∨T.scalar=true∧v.cells = #[v]:=by
 cases n with
 | zero=>simp[ur]at c
 | succ n =>
  simp only[ur]at c;unfold Value.okWide at h;split at c
  ·rename_i hu;cases c;rw[hu]at h;right
   simp only[Cell.okWide,hu]at h;refine⟨rfl,?_⟩;cases v <;> simp_all [Cell.ok,Value.cells]
  ·rename_i k hu;cases c;rw[hu]at h;right
   simp only[Cell.okWide,hu]at h;refine⟨rfl,?_⟩;cases v <;> simp_all [Cell.ok,Value.cells]
  ·rename_i hu;cases c;rw[hu]at h;right
   simp only[Cell.okWide,hu]at h;refine⟨rfl,?_⟩;cases v <;> simp_all [Cell.ok,Value.cells]
  ·rename_i hu;cases c;rw[hu]at h;right
   simp only[Cell.okWide,hu]at h;refine⟨rfl,?_⟩;cases v <;> simp_all [Cell.ok,Value.cells]
  ·rename_i e hu;split at c
   ·split at c
    ·cases c;rw[hu]at h;right
     simp only[Cell.okWide,hu]at h;refine⟨rfl,?_⟩;cases v <;> simp_all [Cell.ok,Value.cells]
    ·cases c
   ·cases c
  ·rename_i j hu;rw[hu]at h;obtain⟨f,e,_⟩:=h;exact .inl ⟨f,e⟩
  ·cases c
theorem HR{t:TypeId}{n:Nat}{T:Ty}(c:ur P n t=some T){r:Reach}{base:Nat}{f:Array Value}(h:Value.okWide P w r base t (.agg f)):T.scalar=false:=by
 cases n with
 | zero=>simp[ur]at c
 | succ n =>
  simp only[ur]at c;unfold Value.okWide at h;split at c
  ·rename_i hu;rw[hu]at h;simp[Cell.okWide,hu,Cell.ok]at h
  ·rename_i k hu;rw[hu]at h;simp[Cell.okWide,hu,Cell.ok]at h
  ·rename_i hu;rw[hu]at h;simp[Cell.okWide,hu,Cell.ok]at h
  ·rename_i hu;rw[hu]at h;simp[Cell.okWide,hu,Cell.ok]at h
  ·rename_i e hu;rw[hu]at h;simp[Cell.okWide,hu,Cell.ok]at h
  ·split at c
   ·rename_i Ts _;split at c
    ·rename_i j;cases c;match Ts,j.2.2 with
     | [a],_=>rfl
     | a::b::r,_=>rfl
    ·cases c
   ·cases c
  ·cases c
theorem Hh{t:TypeId}{n:Nat}{T:Ty}(m:ur P n t=some T){v:Value}{d:DataW H}{p:List MemPlace}(h:DataW.Trod en P w 0 sp held t v d p){r:Reach}{base:Nat}(A:Value.okWide P w r base t v):
  ∃x:T.den,V (Fr fO (fun _=>False) w) jS (IU T x) v∧Wf T x:=by
 obtain⟨f,B⟩:=h;obtain⟨⟨x,C,D⟩,E⟩:=Ci n t T m f _ _ B;refine⟨x,?_,D⟩;have c:ai (Fr fO (fun _=>False) w false) T x (fun k u=>v.cells.toList[k]? = some u):=ai.mono (fun a u hu=>⟨fun e=>e,fun _ e=>e,World.gw hu⟩) (fun _ _ h=>h) C;rcases AE m A with⟨I,rfl⟩ | ⟨j,J⟩
 ·have j:=HR m A;unfold IU;rw[j];simp only[Bool.false_eq_true,if_false,V];refine⟨I,rfl,by rw[dS,←E];simp[Value.cells],jG false T x _ (ai.mono (fun _ _ h=>h) (fun k u q=>by simpa [Value.cells]using q) c)⟩
 ·unfold IU;rw[if_pos j];simp only[V];refine⟨j,?_⟩;rw[J]at c;have z:ai (Fr fO (fun _=>False) w false) T x (fun k u=>(#[v]:Array Value).toList[k]? = some u):=c;refine ai.fS (fun k u q hu=> ?_) z;rw[Ty.eR j]at q;obtain rfl:k=0:=by omega
  simp at hu;exact hu.symm
theorem zG{n:Nat}:∀ {ts:List TypeId} {Ts:List Ty} {c:List Value} {e:List (DataW H)} {p:List MemPlace},ts.map (ur P n)=Ts.map some→DataW.TrodAll en P w 0 sp held ts c e p→∀ {r:Reach} {base:Nat},
  (∀(j:Nat) t v,ts[j]? = some t→c[j]? = some v→Value.okWide P w r base t v)→∃x:KH Ts,iC (Fr fO (fun _=>False) w) jS (Kc Ts x) c∧LR Ts x∧e.length=ts.length
 | [],[],[],[],_,_,_,_,_,_=>⟨(),trivial,trivial,rfl⟩
 | t::ts,T::Ts,v::c,d::e,p,hT,⟨q,E,k,m,_⟩,r,base,f=>by
  simp only[List.map_cons,List.cons.injEq]at hT;obtain⟨x,u,z⟩:=Hh hT.1 k (f 0 t v rfl rfl);obtain⟨y,A,wy,hl⟩:=zG hT.2 m (fun j B D a b=>f (j+1) B D (by simpa using a) (by simpa using b));exact⟨(x,y),⟨u,A⟩,⟨z,wy⟩,by simp[hl]⟩
 | [],_::_,_,_,_,hT,_,_,_,_=>by simp at hT
 | _::_,[],_,_,_,hT,_,_,_,_=>by simp at hT
 | [],[],_::_,_,_,_,h,_,_,_=>h.elim
 | [],[],[],_::_,_,_,h,_,_,_=>h.elim
 | _::_,_::_,[],_,_,_,h,_,_,_=>h.elim
 | _::_,_::_,_::_,[],_,_,h,_,_,_=>h.elim
theorem zg(hl:laidOutB P=true){k:World}(hb:Below w.heap.size w k):∀ {ts:List TypeId} {f:List Value} {j:List (DataW H)} {p:List MemPlace},ts.all (fun t=>P.readableRec t && decide (t<P.types.size))=true →
  DataW.TrodAll en P w 0 (fun _=>true) true ts f j p→DataW.TrodAll en P k 0 (fun b=>decide (b<w.heap.size)) true ts f j p
 | [],[],[],_,_,h=>h
 | t::ts,v::f,d::j,p,c,⟨q,x,u,z,e⟩ =>
  by
   simp only[List.all_cons,Bool.and_eq_true,decide_eq_true_eq]at c;exact⟨q,x,Below.trod hl c.1.1 c.1.2 u hb (by obtain⟨m,A⟩:=u;exact DataW.trod_lt m _ _ _ A),zg hl hb c.2 z,e⟩
 | [],_::_,_,_,_,h=>h.elim
 | [],[],_::_,_,_,h=>h.elim
 | _::_,[],_,_,_,h=>h.elim
 | _::_,_::_,[],_,_,h=>h.elim
end
end Go.Tv
namespace Go.Proofs.YtmcemnfjddoejaaGreatDoor.T
open Go Go.Tv Go.Proofs
open Go.IntKind (i64 u64)
noncomputable section
def yB(c e f j k:Int)(p:Option Nat):Wy:=(1+c,1+e % 64,f % 2,j,k,p)
theorem Fh{e c f j k:Int}(p:Option Nat)(I:0≤e∧e≤255)(q:0≤c∧c≤255)(u:0≤f∧f≤255)(J:0≤j∧j≤65535)(M:0≤k∧k≤65535):
  dA e c f j k p=some (yB e c f j k p)∧cS (yB e c f j k p).1 (yB e c f j k p).2.1 (yB e c f j k p).2.2.1 (yB e c f j k p).2.2.2.1 (yB e c f j k p).2.2.2.2.1 (yB e c f j k p).2.2.2.2.2=some true:=by
 constructor
 ·have v:i64.wrap e=e:=wrap_i64 (by omega) (by omega);have x:i64.wrap (1+e)=1+e:=wrap_i64 (by omega) (by omega);have z:Int.tmod c 64=c % 64:=Int.tmod_eq_emod_of_nonneg q.1;have A:i64.wrap (c % 64)=c % 64:=wrap_i64 (by omega) (by omega);have B:i64.wrap (1+c % 64)=1+c % 64:=wrap_i64 (by omega) (by omega);have C:Int.tmod f 2=f % 2:=Int.tmod_eq_emod_of_nonneg u.1;have D:i64.wrap j=j:=wrap_i64 (by omega) (by omega);have E:i64.wrap k=k:=wrap_i64 (by omega) (by omega);unfold dA yB;rw[if_pos (by decide),if_pos (by decide),v,x,z,A,B,C,D,E]
 ·unfold cS yB;simp only;rw[if_pos (by rw[decide_eq_true_eq];omega),if_pos (by rw[decide_eq_true_eq];omega),if_pos (by rw[decide_eq_true_eq];omega),if_pos (by rw[decide_eq_true_eq];omega),if_pos (by rw[decide_eq_true_eq];omega),if_pos (by rw[decide_eq_true_eq];omega),if_pos (by rw[decide_eq_true_eq];omega),if_pos (by rw[decide_eq_true_eq];omega)];rw[Option.bind_some,decide_eq_true (by omega)]
theorem FY{l:List bB}(h:l.length≤100000)(b:Bool):cg l b l b=some true:=by
 have f:iter (bE l l) ((0:Nat):Int)=some (.inl ()):=by
  refine dL (fun k=>((k:Nat):Int)) l.length (fun k p=> ?_) ?_
  ·have c:(k:Int)<(l.length:Int):=by omega
   have j:0≤(k:Int):=by omega
   simp only[bE,c,j,and_self,decide_true,if_true,BEq.rfl,Bool.and_self,Bool.not_true,Bool.false_eq_true,if_false,bj (show k≤9000000000000000000 by omega)]
  ·have c:¬((l.length:Int)<(l.length:Int)):=Int.lt_irrefl _;simp only[bE,c,decide_false,Bool.false_eq_true,if_false]
 have e:iter (bE l l) (0:Int)=some (.inl ()):=f;unfold cg;rw[e];simp
theorem G4{l:List Int}(h:Wf (.slice (.int .u8)) l):∀i,0≤l.getD i 0∧l.getD i 0≤255:=fun i=>by
 by_cases hi:i<l.length
 ·have:=h.2 i hi;rw[iK hi];exact this
 ·rw[List.getD_eq_getElem?_getD,List.getElem?_eq_none (by omega)];simp
theorem G2{l:List Int}(h:Wf (.slice (.int .u8)) l):Bytes l:=fun x c=>by
 obtain⟨i,hi,rfl⟩:=List.mem_iff_getElem.1 c;exact h.2 i hi
theorem G0{l:List jB}(hl:l.length≤20)(hb:∀i,i<l.length→Bytes (l.getD i AK).2.1.2.2){m:Nat}(N:m≤1000):∃L,ee l false (m:Int)=some L∧L.length=l.length∧∀s∈L,DW s:=by
 obtain⟨L,e,c,f⟩:=cH (body:=dr l false (m:Int)) (fun z:List jB×Int=>∃k:Nat,z.2=(k:Int)∧k≤l.length∧z.1.length=k∧∀s∈z.1,DW s) (fun z=>l.length - z.2.toNat) (fun L=>L.length=l.length∧∀s∈L,DW s) (by
  rintro⟨out,v⟩ ⟨k,rfl,O,c,f⟩;simp only at c f;by_cases q:k<l.length
  ·left
   have j:=hb k q;have A:(k:Int)<(l.length:Int):=by omega
   have g2:0≤(k:Int):=by omega
   have g3:¬((k:Int)≥80):=by omega
   have w:=bj (i:=k) (by omega);generalize u:l.getD k AK=s at j;have g4:0≤(0:Int)∧0≤min (s.2.1.2.2.length:Int) (20:Int)∧min (s.2.1.2.2.length:Int) (20:Int)≤(s.2.1.2.2.length:Int):=by omega
   have B:(([]:List Int).length+((s.2.1.2.2.take (min (s.2.1.2.2.length:Int) (20:Int)).toNat).drop (0:Int).toNat).length)*1≤140737488355328∧([]:List Int).length+((s.2.1.2.2.take (min (s.2.1.2.2.length:Int) (20:Int)).toNat).drop (0:Int).toNat).length≤9223372036854775807:=by simp only[List.length_nil,List.length_drop,List.length_take];omega
   have C:¬(4:Int)=0:=by decide
   have D:¬(5:Int)=0:=by decide
   have E:¬u64.wrap (i64.wrap ((m:Int)+1))=0:=by rw[bj (i:=m) (by omega),uA];omega
   have I:∀a:jB,(out.length+([a]:List jB).length)*128≤140737488355328∧out.length+([a]:List jB).length≤9223372036854775807:=fun a=>by simp only[List.length_singleton];omega
   have x:0≤i64.wrap (Int.tmod (u64.wrap s.1) 4)∧i64.wrap (Int.tmod (u64.wrap s.1) 4)≤3:=by
    have:0≤u64.wrap s.1:=by rw[uA];omega
    rw[Int.tmod_eq_emod_of_nonneg this,wrap_i64 (by omega) (by omega)];omega
   refine⟨_,by
    simp only[dr,A,g2,g3,and_self,decide_true,decide_false,Bool.false_eq_true,Bool.not_false,if_true,if_false,Int.toNat_natCast,u,g4,B,C,D,E,not_false_eq_true,Option.bind_some,I,w];rfl,⟨k+1,rfl,by omega,by simp[c],fun y p=> ?_⟩,by simp only[Int.toNat_natCast];omega⟩
   rcases List.mem_append.1 p with p | p
   ·exact f y p
   ·rw[List.mem_singleton.1 p];exact⟨x.1,x.2,fun z hz=>j z (List.mem_of_mem_take (List.mem_of_mem_drop hz))⟩
  ·right
   obtain rfl:k=l.length:=by omega
   refine⟨out,?_,c,f⟩;have J:¬((l.length:Int)<(l.length:Int)):=Int.lt_irrefl _;simp only[dr,J,decide_false,Bool.false_eq_true,if_false]) (s:=(([]:List jB),(0:Int))) ⟨0,rfl,by omega,rfl,fun s M=>by cases M⟩
 refine⟨L,?_,c,f⟩;unfold ee;rw[e];rfl
theorem IT{L:List jB}(h:∀s∈L,DW s):∀i,i<L.length→DW (L.getD i AK):=fun _ hi=>h _ (mW hi)
end
end Go.Proofs.YtmcemnfjddoejaaGreatDoor.T
namespace Go.Proofs.YtmcemnfjddoejaaGreatDoor.T
open Go Go.Tv Go.Proofs
open Go.IntKind (i64 u64)
noncomputable section
abbrev Im:C3:=(0,((0,0),(0,(([]:List bB),false))))
def half(s:jB):jB:=(Int.tmod s.1 2,s.2)
def Ij(v:Int):jB:=(2,((0,(0,([]:List Int))),((0,(0,(0,(0,(0,(cE 0)))))),(v,(false,(0,0))))))
def Ii(v:Int):jB:=(3,((0,(0,([]:List Int))),((0,(0,(0,(0,(0,(cE 0)))))),(0,(false,(0,v))))))
theorem vE{α:Type}(l:List α)(a:α):(l++[a]).length=l.length+1:=by simp
def qF(at_:List Int)(k:Nat):List jB:=if k<at_.length then[Ij (at_.getD k 0),Ii (at_.getD k 0)]else[]
def lN(L:List jB)(at_:List Int):Nat→List jB
 | 0=>[]
 | k+1=>lN L at_ k++qF at_ k++[half (L.getD k AK)]
def z5(L:List jB):Nat→List jB
 | 0=>[]
 | k+1=>z5 L k++[half (L.getD k AK)]
def AH(L:List jB)(at_:List Int):Nat→List Int
 | 0=>[]
 | k+1=>AH L at_ k++[((lN L at_ k++qF at_ k).length:Int)]
theorem C8(at_:List Int)(k:Nat):(qF at_ k).length≤2:=by unfold qF;split <;> simp
theorem tx(L:List jB)(at_:List Int):∀k,(lN L at_ k).length≤3*k
 | 0=>by simp[lN]
 | k+1=>by
  have e:=tx L at_ k;have f:=C8 at_ k;simp only[lN,List.length_append,List.length_singleton];omega
theorem kD(L:List jB):∀k,(z5 L k).length=k
 | 0=>rfl
 | k+1=>by simp[z5,kD L k]
theorem rO(L:List jB)(at_:List Int):∀k,(AH L at_ k).length=k
 | 0=>rfl
 | k+1=>by simp[AH,rO L at_ k]
theorem EB(L:List jB)(at_:List Int)(k:Nat):∀d,∃t,lN L at_ (k+d)=lN L at_ k++t
 | 0=>⟨[],by simp⟩
 | d+1=>by
  obtain⟨t,c⟩:=EB L at_ k d;exact⟨t++(qF at_ (k+d)++[half (L.getD (k+d) AK)]),by rw[←Nat.add_assoc];simp only[lN];rw[c];simp⟩
theorem ED(L:List jB):∀n k,k<n→(z5 L n).getD k AK=half (L.getD k AK)
 | 0,k,h=>absurd h (by omega)
 | n+1,k,h=>by
  simp only[z5];by_cases e:k<n
  ·rw[List.getD_eq_getElem?_getD,List.getElem?_append_left (by rw[kD];exact e),←List.getD_eq_getElem?_getD];exact ED L n k e
  ·obtain rfl:k=n:=by omega
   rw[List.getD_eq_getElem?_getD,List.getElem?_append_right (by rw[kD];exact Nat.le_refl _),kD];simp
theorem mC{α:Type}(p:List α)(x:α)(t:List α)(d:α){m:Nat}(c:m=p.length):(p++[x]++t).getD m d=x:=by
 subst c;simp[List.getD_eq_getElem?_getD]
theorem HK{s:jB}(h:DW s):DW (half s):=by
 obtain⟨c,f,e⟩:=h;refine⟨?_,?_,e⟩
 ·show 0≤Int.tmod s.1 2;rw[Int.tmod_eq_emod_of_nonneg c];omega
 ·show Int.tmod s.1 2≤3;rw[Int.tmod_eq_emod_of_nonneg c];omega
theorem JK(v:Int):DW (Ij v)∧2≤(Ij v).1:=⟨⟨(by decide:(0:Int)≤2),(by decide:(2:Int)≤3),fun y c=>by cases c⟩,(by decide:(2:Int)≤2)⟩
theorem JM(v:Int):DW (Ii v)∧2≤(Ii v).1:=⟨⟨(by decide:(0:Int)≤3),(by decide:(3:Int)≤3),fun y c=>by cases c⟩,(by decide:(2:Int)≤3)⟩
theorem K5{b:Option Z1}(hb:GU b){c:Wy}{x:List Int}{p:List bB×List Int}{e:Kn}(h:vP c x p e){s:jB}(f:DW s∧2≤s.1){M:List jB}(j:M.length≤1000){B:List C3}(hB:B.length≤1000){m:Nat}(k:m<M.length)(q:M.getD m AK=s):
  ∃a,iter (aR M b) (dst c x p e B (m:Int))=iter (aR M b) (dst c x p e (B++[a]) ((m+1:Nat):Int)):=by
 obtain⟨A,C,D,u,a,E,I,v,z⟩:=wZ hb h f.1;obtain⟨rfl,rfl,rfl,rfl⟩:=v f.2;exact⟨a,cT (z k hB j q)⟩
theorem ME{b:Option Z1}(hb:GU b){c:Wy}{x:List Int}{p:List bB×List Int}{f:Kn}(h:vP c x p f)(at_:List Int)(k:Nat){pre t M:List jB}(e:M=pre++qF at_ k++t)(E:M.length≤500){B:List C3}(hB:B.length=pre.length):
  ∃q,iter (aR M b) (dst c x p f B (pre.length:Int))=iter (aR M b) (dst c x p f (B++q) ((pre++qF at_ k).length:Int))∧(B++q).length=(pre++qF at_ k).length:=by
 by_cases u:k<at_.length
 ·have j:qF at_ k=[Ij (at_.getD k 0),Ii (at_.getD k 0)]:=by unfold qF;rw[if_pos u]
  rw[j]at e ⊢;have v:M.length=pre.length+2+t.length:=by rw[e];simp only[List.length_append,List.length_cons,List.length_nil]
  obtain⟨z,A⟩:=K5 hb h (JK (at_.getD k 0)) (M:=M) (by omega) (B:=B) (by omega) (m:=pre.length) (by omega) (by
   rw[e,show pre++[Ij (at_.getD k 0),Ii (at_.getD k 0)]++t=pre++[Ij (at_.getD k 0)]++(Ii (at_.getD k 0)::t) by simp];exact mC _ _ _ _ rfl)
  obtain⟨C,D⟩:=K5 hb h (JM (at_.getD k 0)) (M:=M) (by omega) (B:=B++[z]) (by simp only[List.length_append,List.length_singleton];omega) (m:=pre.length+1) (by omega) (by
   rw[e,show pre++[Ij (at_.getD k 0),Ii (at_.getD k 0)]++t=(pre++[Ij (at_.getD k 0)])++[Ii (at_.getD k 0)]++t by simp];exact mC _ _ _ _ (by simp))
  refine⟨[z,C],?_,by simp[hB]⟩;rw[A,D];simp only[List.append_assoc,List.singleton_append,List.length_append,List.length_cons,List.length_nil]
 ·have j:qF at_ k=[]:=by unfold qF;rw[if_neg u]
  rw[j]at e ⊢;exact⟨[],by simp,by simp[hB]⟩
theorem both{b:Option Z1}(hb:GU b){L:List jB}(Y:L.length≤20)(I:∀s∈L,DW s)(at_:List Int){u:Wy}{v:List Int}{z:List bB×List Int}{f:Kn}(J:vP u v z f):
  ∀k:Nat,k≤L.length→∃c x p C A B,iter (aR (z5 L L.length) b) (dst u v z f [] ((0:Nat):Int))=iter (aR (z5 L L.length) b) (dst c x p C A (k:Int)) ∧
   iter (aR (lN L at_ L.length) b) (dst u v z f [] ((0:Nat):Int))=iter (aR (lN L at_ L.length) b) (dst c x p C B ((lN L at_ k).length:Int))∧vP c x p C∧A.length=k∧B.length=(lN L at_ k).length ∧
   ∀i,i<k→∃j:Nat,(AH L at_ k).getD i 0=(j:Int)∧j<B.length∧B.getD j Im=A.getD i Im∧(A.getD i Im).2.2.2.1.length≤100000
 | 0,_=>⟨u,v,z,f,[],[],rfl,rfl,J,rfl,rfl,fun i hi=>by omega⟩
 | k+1,hk=>by
  obtain⟨c,x,p,C,A,B,Z,e2,h,hA,hB,D⟩:=both hb Y I at_ J k (by omega);obtain⟨t,M⟩:=EB L at_ (k+1) (L.length - (k+1));rw[show k+1+(L.length - (k+1))=L.length by omega]at M;have a1:=tx L at_ L.length;have m:lN L at_ L.length=lN L at_ k++qF at_ k++([half (L.getD k AK)]++t):=by rw[M];simp only[lN,List.append_assoc]
  obtain⟨N,e3,q⟩:=ME hb h at_ k m (by omega) hB;obtain⟨c',x',p',E,a,s1,s2,-,O⟩:=wZ hb h (HK (IT I k (by omega)));have R:(lN L at_ L.length).length=(lN L at_ k++qF at_ k).length+1+t.length:=by rw[m];simp only[List.length_append,List.length_singleton];omega
  have hq:=C8 at_ k;have hm:=tx L at_ k;have V:(lN L at_ k++qF at_ k).length=(lN L at_ k).length+(qF at_ k).length:=List.length_append;refine⟨c',x',p',E,A++[a],B++N++[a],?_,?_,s1,by simp[hA],by simp only[lN];rw[vE,vE,q],fun i hi=> ?_⟩
  ·rw[Z,cT (O (by rw[kD];omega) (by omega) (by rw[kD];omega) (ED L _ k (by omega)))]
  ·rw[e2,e3,cT (O (l:=lN L at_ L.length) (k:=(lN L at_ k++qF at_ k).length) (by omega) (by omega) (by omega) (by
    rw[m,←List.append_assoc];exact mC _ _ _ _ rfl))]
   simp only[lN];rw[vE (lN L at_ k++qF at_ k)]
  ·simp only[AH];by_cases e:i<k
   ·obtain⟨j,j1,j2,j3,j4⟩:=D i e;refine⟨j,?_,by simp only[List.length_append];omega,?_,?_⟩
    ·rw[List.getD_eq_getElem?_getD,List.getElem?_append_left (by rw[rO];exact e),←List.getD_eq_getElem?_getD];exact j1
    ·rw[List.append_assoc,List.getD_eq_getElem?_getD,List.getElem?_append_left j2,List.getD_eq_getElem?_getD,List.getElem?_append_left (by omega),←List.getD_eq_getElem?_getD,←List.getD_eq_getElem?_getD];exact j3
    ·rw[List.getD_eq_getElem?_getD,List.getElem?_append_left (by omega),←List.getD_eq_getElem?_getD];exact j4
   ·obtain rfl:i=k:=by omega
    have X:(A++[a]).getD i Im=a:=by have:=mC A a [] Im hA.symm;rwa [List.append_nil]at this
    refine⟨(lN L at_ i++qF at_ i).length,?_,by rw[vE,q];omega,?_,?_⟩
    ·have:=mC (AH L at_ i) ((lN L at_ i++qF at_ i).length:Int) [] 0 (rO L at_ i).symm;rwa [List.append_nil]at this
    ·rw[X];have:=mC (B++N) a [] Im q.symm;rwa [List.append_nil]at this
    ·rw[X];exact s2
end
end Go.Proofs.YtmcemnfjddoejaaGreatDoor.T
