/- SegLocal: the text, and what the rules say. -/
import Derived.Test.YtacpjjgochokcaaDoorTvT06xSegOrderm
import Derived.Test.YtacpjjgochokcaaDoorTvT06xSegLocal
import Derived.Test.YtacpjjgochokcaaDoorTv06lpm
namespace Go.Proofs.YtacpjjgochokcaaDoor.T
open Go Go.Tv Go.Proofs
def W8(ds:List Int)(k:Nat):Bool:=decide (k<ds.length) && !(Int.tmod (ds.getD k 0) 4 == 3)
def dL(ds:List Int)(k:Nat):Int:=Int.tmod (ds.getD k 0) 4
def prL(ds:List Int)(k:Nat):PR:=(dL ds k,[((k / 3:Nat):Int)],[((k % 3:Nat):Int)])
def rl(ds:List Int):Nat→List PR
 | 0=>[]
 | k+1=>if W8 ds k then rl ds k++[prL ds k]else rl ds k
def U8(ds:List Int):Nat→List UInt8
 | 0=>[99,108,97,115,115,32,65,32,66,32,67,59]
 | k+1=>if W8 ds k then U8 ds k++(((((([([107,101,101,112,32]:List UInt8),([109,97,121,32]:List UInt8),([109,117,115,116,32]:List UInt8)]:List (List UInt8)).getD (dL ds k).toNat [])++[qR 3 (k / 3)])++[32,47,32])++[qR 3 (k % 3)])++[59])else U8 ds k
def mT(ds:List Int)(k:Nat):Int:=if W8 ds k then dL ds k else 1
theorem W9(ds:List Int):∀k,(rl ds k).length≤k
 | 0=>Nat.le_refl _
 | k+1=>by
  have:=W9 ds k
  simp only[rl]
  split
  ·simp only[List.length_append,List.length_singleton];omega
  ·omega
theorem u4{ds:List Int}:∀ {k:Nat} {x:PR},x∈rl ds k→∃j,j<k∧x=prL ds j∧W8 ds j=true
 | 0,x,h=>by cases h
 | k+1,x,h=>by
  simp only[rl]at h
  split at h
  ·rename_i ho
   rcases List.mem_append.1 h with h | h
   ·obtain⟨j,j1,j2⟩:=u4 h;exact⟨j,by omega,j2⟩
   ·exact⟨k,by omega,List.mem_singleton.1 h,ho⟩
  ·obtain⟨j,j1,j2⟩:=u4 h;exact⟨j,by omega,j2⟩
theorem O1{ds:List Int}(hd:Sm ds){k:Nat}(h:W8 ds k=true):dL ds k=0∨dL ds k=1∨dL ds k=2:=by
 simp only[W8,Bool.and_eq_true,decide_eq_true_eq,Bool.not_eq_true',beq_eq_false_iff_ne]at h
 obtain⟨h1,h2⟩:=h
 have h3:=hd _ (dN (d:=0) h1)
 have e:Int.tmod (ds.getD k 0) 4=ds.getD k 0 % 4:=Int.tmod_eq_emod_of_nonneg h3.1
 unfold dL
 rw[e]at h2 ⊢
 omega
theorem aGX{ds:List Int}(hd:Sm ds){k:Nat}(hk:k≤9):Pl 2 0 0 [] (rl ds k):=by
 refine⟨⟨by decide,by decide⟩,⟨by decide,by decide⟩,⟨by decide,by decide⟩,fun x hx=>(by cases hx),fun x hx=> ?_⟩
 obtain⟨j,j1,rfl,ho⟩:=u4 hx
 have h1:=O1 hd ho
 refine⟨⟨by simp only[prL];omega,by simp only[prL];omega⟩,fun y hy=> ?_,fun y hy=> ?_⟩
 ·obtain rfl:=List.mem_singleton.1 hy;exact⟨by omega,by omega⟩
 ·obtain rfl:=List.mem_singleton.1 hy;exact⟨by omega,by omega⟩
theorem aCR:∀k,k<3→wM [((k:Nat):Int)]=some (.nm k)
 | 0,_=>rfl
 | 1,_=>rfl
 | 2,_=>rfl
theorem aAw{n:Nat}{l l':List PR}:∀k,k≤l.length→ruK n (l++l') k=ruK n l k
 | 0,_=>rfl
 | k+1,h=>by simp only[ruK];rw[aAw k (by omega),bN (by omega)]
theorem aCz{n:Nat}(l:List PR)(x:PR):ruK n (l++[x]) (l.length+1)=ruK n l l.length++(.w (pP x.1)::(aBs n (wM x.2.1) ++ .s 47::(aBs n (wM x.2.2)++[.s 59]))):=by
 simp only[ruK]
 rw[aAw _ (Nat.le_refl _),oF]
theorem aA4{d:Int}(h:d=0∨d=1∨d=2):([([107,101,101,112,32]:List UInt8),([109,97,121,32]:List UInt8),([109,117,115,116,32]:List UInt8)]:List (List UInt8)).getD d.toNat []=pP d++[32]∧pP d≠[]∧(∀c∈pP d,d8 c.toNat=true)∧Int.tmod d 3=d:=by
 rcases h with rfl | rfl | rfl <;> exact⟨rfl,by decide,by decide,rfl⟩
theorem aDp{ds:List Int}(hd:Sm ds):∀k,k≤9→Px (U8 ds k) (E2 3++ruK 3 (rl ds k) (rl ds k).length)
 | 0,_=>by
  obtain⟨_,_,_,_,_,_,_,_,_,_,_,_,c59,_⟩:=aAN
  have hn:=aCp (n:=3) (by decide) (by decide) 255 (y:=[59]) rfl (by decide) c59
  have:=(aC1 (w:=[99,108,97,115,115]) (by simp) (by decide)).app (c:=32) (y':=[65,32,66,32,67,59]) (by rfl) (by decide) hn
  have e:sH 3 255 3=[32,65,32,66,32,67]:=by kernel_rfl
  rw[e]at this
  simpa [rl,ruK,E2,U8]using this
 | k+1,hk=>by
  have ih:=aDp hd k (by omega)
  simp only[U8,rl]
  split
  ·rename_i ho
   obtain⟨e1,e2,e3,_⟩:=aA4 (O1 hd ho)
   obtain⟨c32,_,_,_,_,_,_,_,_,_,_,_,c59,c47,_⟩:=aAN
   have w1:=aEU e2 e3
   have w4:=(aDA (n:=3) (i:=k % 3) (by decide) (by decide)).app (y:=[59]) rfl (by decide) c59
   have w3:=(c32.app (c47.app c32)).app w4
   have w2:=(aDA (n:=3) (i:=k / 3) (by decide) (by decide)).app (y:=[32,47,32]++([qR 3 (k % 3)]++[59])) rfl (by decide) w3
   have:=ih.app (w1.app w2)
   have hlen:(rl ds k++[prL ds k]).length=(rl ds k).length+1:=by simp
   rw[hlen,aCz,e1]
   simp only[prL]
   rw[aCR (k / 3) (by omega),aCR (k % 3) (by omega)]
   simp only[aBs,xJ]
   simp only[List.append_assoc,List.cons_append,List.nil_append]at this ⊢
   exact this
  ·exact ih
theorem I7{ds:List Int}(hd:Sm ds):∀k,(U8 ds k).length≤12+11*k
 | 0=>by simp[U8]
 | k+1=>by
  have ih:=I7 hd k
  simp only[U8]
  split
  ·rename_i ho
   have h1:=O1 hd ho
   have hw:(([([107,101,101,112,32]:List UInt8),([109,97,121,32]:List UInt8),([109,117,115,116,32]:List UInt8)]:List (List UInt8)).getD (dL ds k).toNat []).length≤5:=by
    rcases h1 with e | e | e <;> rw[e] <;> decide
   simp only[List.length_append,List.length_cons,List.length_nil]
   omega
  ·omega
abbrev aAn(ds:List Int):RR:=tF 2 0 0 [] (rl ds 9)
theorem aBl{ds:List Int}(hd:Sm ds):gI (U8 ds 9)=some (aAn ds,0,0):=by
 have hl:=W9 ds 9
 have hk:Kd (T (U8 ds 9) 0) (R2 2 0 0 [] (rl ds 9)):=by
  have:=aDp hd 9 (Nat.le_refl _) [] [] aF9 0
  rw[List.append_nil,List.append_nil]at this
  have e:R2 2 0 0 [] (rl ds 9)=E2 3++ruK 3 (rl ds 9) (rl ds 9).length:=by
   unfold R2
   rw[show min (rl ds 9).length 10=(rl ds 9).length by omega]
   rfl
  rw[e]
  exact this
 rw[aFT,aAd (aGX hd (Nat.le_refl _)) (by have:=I7 hd 9;omega) hk]
 rfl
def sg1(k:Nat):Int:=((2 ^ k:Nat):Int)
theorem aEb:qU 3 (b9 3) (dD 3) (wM [((0:Nat):Int)])=S8 (sg1 0):=by kernel_rfl
theorem aEW:qU 3 (b9 3) (dD 3) (wM [((1:Nat):Int)])=S8 (sg1 1):=by kernel_rfl
theorem aD6:qU 3 (b9 3) (dD 3) (wM [((2:Nat):Int)])=S8 (sg1 2):=by kernel_rfl
theorem aAI:∀k,k<3→qU 3 (b9 3) (dD 3) (wM [((k:Nat):Int)])=S8 (sg1 k)
 | 0,_=>aEb
 | 1,_=>aEW
 | 2,_=>aD6
theorem wT{ds:List Int}(hd:Sm ds){k:Nat}(hk:k<9)(ho:W8 ds k=true):ruF 3 (prL ds k)=(dL ds k,S8 (sg1 (k / 3)),S8 (sg1 (k % 3))):=by
 simp only[ruF,prL]
 rw[aAI (k / 3) (by omega),aAI (k % 3) (by omega),(aA4 (O1 hd ho)).2.2.2]
theorem qJ{k:Nat}(hk:k<3)(c:Int):P5 (sg1 k) c↔c=(k:Int):=by
 unfold P5 sg1
 rw[X3]
 constructor
 ·rintro⟨h1,_,h3⟩
  have:=of_decide_eq_true h3
  omega
 ·rintro rfl
  exact⟨by omega,by omega,by simp⟩
theorem zS{ds:List Int}:(aAn ds).2.2.2.2=(rl ds 9).map (ruF 3):=by
 have hl:=W9 ds 9
 show(tF 2 0 0 [] (rl ds 9)).2.2.2.2=_
 rw[T6 (by omega)]
 rfl
theorem zQ{ds:List Int}(hd:Sm ds):pE (hX (aAn ds).2.2.2.2)∧pE (eA (aAn ds).2.2.2.2):=by
 rw[zS]
 constructor
 ·intro t ht
  obtain⟨x,hx,rfl⟩:=List.mem_map.1 ht
  obtain⟨y,hy,rfl⟩:=List.mem_map.1 hx
  obtain⟨j,j1,rfl,ho⟩:=u4 hy
  rw[wT hd j1 ho]
  exact⟨_,((j / 3:Nat):Int),rfl,(qJ (by omega) _).2 rfl⟩
 ·intro t ht
  obtain⟨x,hx,rfl⟩:=List.mem_map.1 ht
  obtain⟨y,hy,rfl⟩:=List.mem_map.1 hx
  obtain⟨j,j1,rfl,ho⟩:=u4 hy
  rw[wT hd j1 ho]
  exact⟨_,((j % 3:Nat):Int),by simp[kS,dO],(qJ (by omega) _).2 rfl⟩
theorem aCN{ds:List Int}(hd:Sm ds):∃A B,jJ (U8 ds 9)=some ((some (aAn ds,A,B):MA),0,0)∧aE3 (aAn ds) A B:=by
 rcases aEL (uJ 2 0 0 [] (rl ds 9)) (aBl hd)with⟨_,hm⟩ | q
 ·exact absurd hm (aCg (uJ 2 0 0 [] (rl ds 9)) (zQ hd).1 (zQ hd).2)
 ·exact q
end Go.Proofs.YtacpjjgochokcaaDoor.T
namespace Go.Proofs.YtacpjjgochokcaaDoor.T
open Go Go.Tv Go.Proofs
theorem Dec.snoc_hit:∀ {l:List RU} {x:RU} {u v:Wd},(∀y∈l,¬Hit y u v)→Hit x u v→Dec (l++[x]) u v x.1
 | [],_,_,_,_,h=> .inl ⟨h,rfl⟩
 | y::l,_,_,_,hn,h=> .inr ⟨hn y (.head _),Dec.snoc_hit (fun z hz=>hn z (.tail _ hz)) h⟩
theorem aAY{ds:List Int}(hd:Sm ds){w:List Int}{i:Nat}(h1:1≤i)(hi:i<w.length)(ha:0≤w.getD (i - 1) 0∧w.getD (i - 1) 0<3)(hb:0≤w.getD i 0∧w.getD i 0<3){j:Nat}(hj:j<9)(ho:W8 ds j=true):
  Hit (ruF 3 (prL ds j)) (w.take i) (w.drop i)↔j=(w.getD (i - 1) 0).toNat*3+(w.getD i 0).toNat:=by
 rw[wT hd hj ho]
 have hd':=jV (d:=0) hi
 have hlen:(w.take i).length=i:=by rw[List.length_take];omega
 have hv:(w.drop i).take 1=[w.getD i 0]:=by rw[hd'];rfl
 have hvl:1≤(w.drop i).length:=by rw[List.length_drop];omega
 have hu:(w.take i).drop (i - 1)=[w.getD (i - 1) 0]:=by
  have e:i - 1+1=i:=by omega
  have:=eW (d:=0) (show i - 1<w.length by omega)
  rw[e]at this
  rw[this,List.drop_append_of_le_length (by rw[List.length_take];omega),List.drop_of_length_le (by rw[List.length_take];omega)]
  rfl
 constructor
 ·rintro⟨⟨a,a1,a2⟩,b,b1,b2⟩
  obtain⟨c,c1,c2⟩:=uS.1 a2
  obtain⟨d,d1,d2⟩:=uS.1 b2
  have ea:a=i - 1:=by
   have:=congrArg List.length c1
   rw[List.length_drop,hlen]at this
   simp only[List.length_singleton]at this
   omega
  have eb:b=1:=by
   have:=congrArg List.length d1
   rw[List.length_take]at this
   simp only[List.length_singleton]at this
   omega
  subst ea eb
  rw[hu]at c1
  rw[hv]at d1
  have c3:=(qJ (show j / 3<3 by omega) c).1 c2
  have d3:=(qJ (show j % 3<3 by omega) d).1 d2
  have c4:w.getD (i - 1) 0=c:=by cases c1;rfl
  have d4:w.getD i 0=d:=by cases d1;rfl
  omega
 ·intro e
  refine⟨⟨i - 1,by omega,?_⟩,1,hvl,?_⟩
  ·rw[hu];exact uS.2 ⟨_,rfl,(qJ (show j / 3<3 by omega) _).2 (by omega)⟩
  ·rw[hv];exact uS.2 ⟨_,rfl,(qJ (show j % 3<3 by omega) _).2 (by omega)⟩
theorem aAW{ds:List Int}(hd:Sm ds){w:List Int}{i:Nat}(h1:1≤i)(hi:i<w.length)(ha:0≤w.getD (i - 1) 0∧w.getD (i - 1) 0<3)(hb:0≤w.getD i 0∧w.getD i 0<3){p:Nat}(hp:p=(w.getD (i - 1) 0).toNat*3+(w.getD i 0).toNat):
  ∀k,k≤9→Dec ((rl ds k).map (ruF 3)) (w.take i) (w.drop i) (if p<k then mT ds p else 1)
 | 0,_=>rfl
 | k+1,hk=>by
  have ih:=aAW hd h1 hi ha hb hp k (by omega)
  simp only[rl]
  by_cases ho:W8 ds k=true
  ·rw[if_pos ho,List.map_append,List.map_singleton]
   have hh:=aAY hd h1 hi ha hb (show k<9 by omega) ho
   rw[←hp]at hh
   by_cases e:k=p
   ·have:=Dec.snoc_hit (l:=(rl ds k).map (ruF 3)) (x:=ruF 3 (prL ds k)) (u:=w.take i) (v:=w.drop i) (fun y hy hit=>by
     obtain⟨x,hx,rfl⟩:=List.mem_map.1 hy
     obtain⟨j,j1,rfl,j3⟩:=u4 hx
     have:=(aAY hd h1 hi ha hb (show j<9 by omega) j3).1 hit
     omega) (hh.2 e)
    rw[wT hd (by omega) ho]at this ⊢
    rw[if_pos (by omega)]
    have hwt:mT ds p=dL ds k:=by rw[←e];unfold mT;rw[if_pos ho]
    rw[hwt]
    exact this
   ·have:(if p<k+1 then mT ds p else 1)=if p<k then mT ds p else 1:=by
     by_cases q:p<k
     ·rw[if_pos q,if_pos (by omega)]
     ·rw[if_neg q,if_neg (by omega)]
    rw[this]
    exact Dec.app (fun y hy hit=>by
     obtain rfl:=List.mem_singleton.1 hy
     exact absurd (hh.1 hit) e) ih
  ·rw[if_neg ho]
   by_cases e:k=p
   ·have hwt:mT ds p=1:=by rw[←e];unfold mT;rw[if_neg ho]
    rw[if_pos (by omega),hwt]
    rw[if_neg (by omega)]at ih
    exact ih
   ·have:(if p<k+1 then mT ds p else 1)=if p<k then mT ds p else 1:=by
     by_cases q:p<k
     ·rw[if_pos q,if_pos (by omega)]
     ·rw[if_neg q,if_neg (by omega)]
    rw[this]
    exact ih
def WL(ds:List Int)(k q:Nat):Int:=if q<k then mT ds q else 0
theorem aG8{ds:List Int}{k:Nat}(ho:W8 ds k=true)(q:Nat):(if k=q then Int.tmod (ds.getD k 0) 4 else if k=q then(1:Int)else WL ds k q)=WL ds (k+1) q:=by
 unfold WL
 by_cases e:k=q
 ·subst e
  rw[if_pos rfl,if_pos (by omega)]
  unfold mT
  rw[if_pos ho];rfl
 ·rw[if_neg e,if_neg e]
  by_cases h:q<k
  ·rw[if_pos h,if_pos (by omega)]
  ·rw[if_neg h,if_neg (by omega)]
theorem aDC{ds:List Int}{k:Nat}(ho:¬W8 ds k=true)(q:Nat):(if k=q then(1:Int)else WL ds k q)=WL ds (k+1) q:=by
 unfold WL
 by_cases e:k=q
 ·subst e
  rw[if_pos rfl,if_pos (by omega)]
  unfold mT
  rw[if_neg ho]
 ·rw[if_neg e]
  by_cases h:q<k
  ·rw[if_pos h,if_pos (by omega)]
  ·rw[if_neg h,if_neg (by omega)]
theorem aAC:∀a,a<3→bD [IntKind.u8.wrap (IntKind.i64.wrap (65+((a:Nat):Int)))]=[qR 3 a]
 | 0,_=>by kernel_rfl
 | 1,_=>by kernel_rfl
 | 2,_=>by kernel_rfl
theorem aF5{ds:List Int}(hd:Sm ds):iter (bQ ds) (([99,108,97,115,115,32,65,32,66,32,67,59]:List UInt8),(0:Int),(0:Int),(0:Int),(0:Int),(0:Int),(0:Int),(0:Int),(0:Int),(0:Int),(0:Int))
  = some (U8 ds 9,WL ds 9 0,WL ds 9 1,WL ds 9 2,WL ds 9 3,WL ds 9 4,WL ds 9 5,WL ds 9 6,WL ds 9 7,WL ds 9 8):=by
 have:=bZ (body:=bQ ds) (fun k=>(U8 ds k,WL ds k 0,WL ds k 1,WL ds k 2,WL ds k 3,WL ds k 4,WL ds k 5,WL ds k 6,WL ds k 7,WL ds k 8,(k:Int))) 9
  (r:=(U8 ds 9,WL ds 9 0,WL ds 9 1,WL ds 9 2,WL ds 9 3,WL ds 9 4,WL ds 9 5,WL ds 9 6,WL ds 9 7,WL ds 9 8)) (fun k hk=> ?_) ?_
 ·exact this
 ·have hl:=I7 hd k
  have e1:IntKind.i64.wrap (Int.tdiv (k:Int) 3)=((k / 3:Nat):Int):=by
   have:Int.tdiv (k:Int) 3=((k / 3:Nat):Int):=rfl
   rw[this,aR (by omega) (by omega)]
  have e2:Int.tmod (k:Int) 3=((k % 3:Nat):Int):=rfl
  have e3:k / 3*3+k % 3=k:=by omega
  have h3:¬(3:Int)=0:=by decide
  have h4:¬(4:Int)=0:=by decide
  have b1:=aAC (k / 3) (by omega)
  have b2:=aAC (k % 3) (by omega)
  have c1:0≤((k / 3:Nat):Int)∧((k / 3:Nat):Int)<((3:Nat):Int):=by omega
  have c2:(0≤((k % 3:Nat):Int)∧((k % 3:Nat):Int)<((3:Nat):Int))∧k<9:=by omega
  have c3:decide ((k:Int)<9)=true:=by simp;omega
  unfold bQ
  dsimp only
  simp only[e1,e2,e3,Int.toNat_natCast,b1,b2,if_pos h3,if_pos h4,if_pos c1,if_pos c2,c3,if_true,gN (show k<10000000 by omega)]
  by_cases hx:k<ds.length
  ·have c4:decide ((k:Int)<(ds.length:Int))=true:=by simp;omega
   have c5:0≤(k:Int)∧(k:Int)<(ds.length:Int):=by omega
   simp only[c4,if_true,if_pos c5]
   by_cases ho:W8 ds k=true
   ·have hdn:=O1 hd ho
    have q3:(Int.tmod (ds.getD k 0) 4 == 3)=false:=by
     simp only[W8,Bool.and_eq_true,Bool.not_eq_true']at ho
     exact ho.2
    have hw:(([([107,101,101,112,32]:List UInt8),([109,97,121,32]:List UInt8),([109,117,115,116,32]:List UInt8)]:List (List UInt8)).getD (Int.tmod (ds.getD k 0) 4).toNat []).length≤5:=by
     have:Int.tmod (ds.getD k 0) 4=dL ds k:=rfl
     rw[this]
     rcases hdn with e | e | e <;> rw[e] <;> decide
    have c6:0≤Int.tmod (ds.getD k 0) 4∧Int.tmod (ds.getD k 0) 4<(([([107,101,101,112,32]:List UInt8),([109,97,121,32]:List UInt8),([109,117,115,116,32]:List UInt8)]:List (List UInt8)).length:Int):=by
     have:Int.tmod (ds.getD k 0) 4=dL ds k:=rfl
     rw[this]
     simp only[List.length_cons,List.length_nil]
     omega
    have c7:(Int.tmod (ds.getD k 0) 4).toNat<([([107,101,101,112,32]:List UInt8),([109,97,121,32]:List UInt8),([109,117,115,116,32]:List UInt8)]:List (List UInt8)).length:=by omega
    simp only[q3,Bool.false_eq_true,if_false,if_pos c6,if_pos c7]
    rw[if_pos (by simp only[List.length_cons,List.length_nil];omega),if_pos (by simp only[List.length_append,List.length_cons,List.length_nil];omega),if_pos (by simp only[List.length_append,List.length_cons,List.length_nil];omega),if_pos (by simp only[List.length_append,List.length_cons,List.length_nil];omega),if_pos (by simp only[List.length_append,List.length_cons,List.length_nil];omega)]
    simp only[Option.bind_some,aG8 ho,U8,if_pos ho]
    rfl
   ·have q3:(Int.tmod (ds.getD k 0) 4 == 3)=true:=by
     simp only[W8,Bool.and_eq_true,Bool.not_eq_true',not_and,Bool.not_eq_false]at ho
     exact ho (by simpa using hx)
    simp only[q3,if_true,Option.bind_some,aDC ho,U8,if_neg ho]
  ·have c4:decide ((k:Int)<(ds.length:Int))=false:=by simp;omega
   have ho:¬W8 ds k=true:=by simp[W8,hx]
   simp only[c4,Bool.false_eq_true,if_false,Option.bind_some,aDC ho,U8,if_neg ho]
 ·unfold bQ
  dsimp only
  rw[if_neg (by decide)]
end Go.Proofs.YtacpjjgochokcaaDoor.T
namespace Go.Proofs.YtacpjjgochokcaaDoor.T
open Go Go.Tv Go.Proofs
def M9(x:Int):Int:=IntKind.i64.wrap (Int.tmod (IntKind.u64.wrap x) 3)
theorem aFS(x:Int):0≤M9 x∧M9 x<3:=by
 obtain⟨_,h1,h2⟩:=aEd x (n:=3) (by decide) (by decide)
 have e:IntKind.u64.wrap ((3:Nat):Int)=3:=pD (by decide) (by decide)
 rw[e]at h1 h2
 exact⟨h1,h2⟩
theorem aEf{i1:List Int}{i:Nat}(h:i<(i1.map M9).length):0≤(i1.map M9).getD i 0∧(i1.map M9).getD i 0<3:=by
 rw[cY h,List.getElem_map]
 exact aFS _
theorem aFw{i1:List Int}(hl:i1.length≤200):iter (bP i1) ([],0)=some (i1.map M9):=by
 have e:(i1.map M9).take i1.length=i1.map M9:=List.take_of_length_le (by simp)
 have:=bZ (body:=bP i1) (fun j=>((i1.map M9).take j,(j:Int))) i1.length (r:=i1.map M9) (fun j hj=> ?_) ?_
 ·exact this
 ·unfold bP
  dsimp only
  rw[if_pos (by simp;omega),if_pos (by omega),if_pos (by decide),if_pos (by simp only[List.length_take,List.length_map,List.length_cons,List.length_nil];omega),Int.toNat_natCast,gN (by omega),mX _ hj 0]
  rfl
 ·unfold bP
  dsimp only
  rw[if_neg (by simp),e]
theorem aGZ(ds:List Int):∀p,p<9→([WL ds 9 0,WL ds 9 1,WL ds 9 2,WL ds 9 3,WL ds 9 4,WL ds 9 5,WL ds 9 6,WL ds 9 7,WL ds 9 8]:List Int).getD p 0=mT ds p
 | 0,_=>rfl
 | 1,_=>rfl
 | 2,_=>rfl
 | 3,_=>rfl
 | 4,_=>rfl
 | 5,_=>rfl
 | 6,_=>rfl
 | 7,_=>rfl
 | 8,_=>rfl
theorem aFN{ds w o:List Int}(hl:w.length≤200)(hw:∀i,i<w.length→0≤w.getD i 0∧w.getD i 0<3)(ho:o.length=w.length+1)
  (h:∀i,1≤i→i<w.length→o.getD i 0=mT ds ((w.getD (i - 1) 0).toNat*3+(w.getD i 0).toNat)) :
  iter (bO (WL ds 9 0) (WL ds 9 1) (WL ds 9 2) (WL ds 9 3) (WL ds 9 4) (WL ds 9 5) (WL ds 9 6) (WL ds 9 7) (WL ds 9 8) w o) 1=some (.inl ()):=by
 have key:∃q,iter (bO (WL ds 9 0) (WL ds 9 1) (WL ds 9 2) (WL ds 9 3) (WL ds 9 4) (WL ds 9 5) (WL ds 9 6) (WL ds 9 7) (WL ds 9 8) w o) 1=some q∧q = .inl ():=by
  refine cC (I:=fun s=>∃i:Nat,s=(i:Int)∧1≤i) (μ:=fun s=>w.length+1 - s.toNat) _ ?_ ⟨1,rfl,Nat.le_refl _⟩
  rintro s ⟨i,rfl,h1⟩
  by_cases hi:i<w.length
  ·have a1:=hw (i - 1) (by omega)
   have a2:=hw i hi
   have e:IntKind.i64.wrap ((i:Int) - 1)=((i - 1:Nat):Int):=by rw[aR (by omega) (by omega)];omega
   refine .inl ⟨((i+1:Nat):Int),?_,⟨i+1,rfl,by omega⟩,by simp only[Int.toNat_natCast];omega⟩
   unfold bO
   simp only[e,Int.toNat_natCast]
   rw[if_pos (by simp;omega),if_pos (by omega),if_pos (by omega),if_pos (by omega),if_pos (by omega),if_pos (by omega),if_pos (by omega),if_pos (by omega),aGZ ds _ (by omega),h i h1 hi,if_neg (by simp),gN (by omega)]
  ·refine .inr ⟨_,?_,rfl⟩
   unfold bO
   rw[if_neg (by simp;omega)]
 obtain⟨q,h1,rfl⟩:=key
 exact h1
theorem Q2{ds:List Int}(hd:Sm ds)(i1:List Int):dK ds i1=some true:=by
 unfold dK
 rw[aEC]
 simp only[Option.bind_some,Bool.not_true,Bool.false_eq_true,if_false]
 by_cases h200:i1.length≤200
 ·rw[if_neg (by simp;omega),aF5 hd]
  simp only[Option.bind_some]
  obtain⟨A,B,q2,hM⟩:=aCN hd
  rw[q2]
  simp only[Option.bind_some]
  rw[if_neg (by decide),aFw h200]
  simp only[Option.bind_some]
  have hwl:(i1.map M9).length=i1.length:=List.length_map ..
  have hw:∀i,i<(i1.map M9).length→0≤(i1.map M9).getD i 0∧(i1.map M9).getD i 0<3:=fun i hi=>aEf hi
  obtain⟨o,o1,o2⟩:=aE5 (uJ 2 0 0 [] (rl ds 9)) hM (i1:=i1.map M9) (by omega)
  rw[o1]
  simp only[Option.bind_some]
  have hn:(aAn ds).1.length=3:=D7 2 0 0 [] (rl ds 9)
  obtain⟨p1,p2⟩:=o2.plain rfl fun i hi=>by
   obtain⟨a1,a2⟩:=hw i hi
   rw[hn]
   generalize (i1.map M9).getD i 0=c at a1 a2
   have hc:c=0∨c=1∨c=2:=by omega
   rcases hc with rfl | rfl | rfl <;> rfl
  have hL3:=aFN (ds:=ds) (w:=i1.map M9) (o:=o) (by omega) hw o2.len fun i h1 hi=>by
   have a1:=hw (i - 1) (by omega)
   have a2:=hw i hi
   have d1:=p1 i h1 hi
   rw[zS]at d1
   have d2:=aAW hd h1 hi a1 a2 rfl 9 (Nat.le_refl _)
   rw[if_pos (by omega)]at d2
   exact d1.uniq d2
  rw[if_neg (by rw[o2.len,gN (by omega)];simp),if_pos (by have:=o2.len;omega),Int.toNat_natCast,o2.last]
  simp only[Option.bind_some]
  rw[if_neg (by decide),hL3]
  simp only[Option.bind_some]
  by_cases h0:(i1.map M9).length=0
  ·rw[if_pos (by rw[h0];rfl)]
   rfl
  ·rw[if_neg (by simp only[beq_iff_eq];omega),if_pos (by have:=o2.len;omega)]
   have e:(0:Int).toNat=0:=rfl
   rw[e,p2 (by omega)]
   rfl
 ·rw[if_pos (by simp;omega)]
end Go.Proofs.YtacpjjgochokcaaDoor.T
namespace Go.Proofs.YtacpjjgochokcaaDoor.T
open Go Go.Tv Go.Proofs
abbrev segLocal_Ts:List Ty:=[(.slice (.int .u8)),(.slice (.int .i64))]
theorem segLocal_all(x:Tup segLocal_Ts)(hx:WfT segLocal_Ts x):dK x.1 x.2.1=some true:=by
 obtain⟨ds,i1,u⟩:=x
 refine Q2 (fun z hz=> ?_) i1
 obtain⟨i,hi,rfl⟩:=List.getElem_of_mem hz
 have:=hx.1.2 i hi
 exact⟨this.1,Int.lt_add_one_iff.mpr this.2⟩
end Go.Proofs.YtacpjjgochokcaaDoor.T
