/- The program's automaton: all states. -/
import Derived.Test.YtacpjjgochokcaaDoorTv06ardm
import Derived.Test.YtacpjjgochokcaaDoorTvT06xa
import Derived.Test.YtacpjjgochokcaaDoorTvYm
namespace Go.Proofs.YtacpjjgochokcaaDoor.T
open Go Go.Tv Go.Proofs
abbrev K4:Ty:= .prod (.int .u64) (.prod (.int .u64) (.prod (.int .u64) (.int .u64)))
def lab(ss:List Int)(p:Nat)(c:Int):Prop:=p<ss.length∧P5 (ss.getD p 0) c
def Fe(f:List S4)(p q:Nat):Prop:=p<f.length∧me (f.getD p z4) q=true
def Rch(x:MS)(w:Wd)(s:S4):Prop:=W4 s∧∀q,me s q=true↔Sx (Fe x.2.1) (lab x.1) (Fst x.2.2) w q
def Stp(x:MS)(s:S4)(c:Nat)(t:S4):Prop:=∃m:S4,W4 m∧(∀q,me m q=true↔May x.2.1 (Fst x.2.2) s q)∧Nxt x.1 m c t
def Cls(n:Nat)(w:Wd):Prop:=∀c∈w,0≤c∧c<(n:Int)
theorem Rch.nil(x:MS):Rch x [] z4:=⟨W4.z,fun q=>by rw[I4];exact⟨fun h=>(by cases h),fun h=>(Sx.nil h).elim⟩⟩
theorem Rch.step{x:MS}{w:Wd}{s t:S4}{c:Nat}(hc:c<32)(h:Rch x w s)(k:Stp x s c t):Rch x (w++[(c:Int)]) t:=by
 obtain⟨m,hm,hM,ht,hN⟩:=k
 refine⟨ht,fun q=> ?_⟩
 rw[hN,Sx.snoc,hM]
 unfold May lab P5 Fe
 have e:∀p,me s p=true↔Sx (Fe x.2.1) (lab x.1) (Fst x.2.2) w p:=h.2
 constructor
 ·rintro⟨h1,h2,h3⟩
  refine⟨⟨h1,by omega,by omega,by simpa using h3⟩,?_⟩
  rcases h2 with h2 | ⟨p,h4,h5,h6⟩
  ·exact .inl h2
  ·exact .inr ⟨p,(e p).1 h5,h4,h6⟩
 ·rintro⟨⟨h1,_,_,h3⟩,h2⟩
  refine⟨h1,?_,by simpa using h3⟩
  rcases h2 with h2 | ⟨p,h5,h4,h6⟩
  ·exact .inl h2
  ·exact .inr ⟨p,h4,(e p).2 h5,h6⟩
theorem Rch.uniq{x:MS}{w:Wd}{s t:S4}(h:Rch x w s)(k:Rch x w t):s=t :=
 aCD h.1 k.1 fun i=>by
  have:=(h.2 i).trans (k.2 i).symm
  cases h1:me s i <;> cases h2:me t i <;> simp_all
structure DI(x:MS)(n:Nat)(st:List S4)(seen:List (S4×Int)):Prop where
 ne:1≤st.length
 le:st.length≤300
 w4:∀s∈st,W4 s
 nd:st.Nodup
 z:st.getD 0 z4=z4
 sn:∀t j,bF K4 seen t=some j↔∃i,i<st.length∧j=(i:Int)∧st.getD i z4=t
 rc:∀i,i<st.length→∃w,Cls n w∧Rch x w (st.getD i z4)
def P3(x:MS)(n:Nat):Prop:=∃st:List S4,300≤st.length∧st.Nodup∧∀s∈st,∃w,Cls n w∧Rch x w s
theorem DI.full{x:MS}{n:Nat}{st:List S4}{seen:List (S4×Int)}(h:DI x n st seen)(hf:300≤st.length):P3 x n:=by
 refine⟨st,hf,h.nd,fun s hs=> ?_⟩
 obtain⟨i,hi,rfl⟩:=List.getElem_of_mem hs
 have:=h.rc i hi
 rwa [cY hi]at this
theorem cV{α:Type}(l:List α)(y d:α):(l++[y]).getD l.length d=y:=by simp[List.getD_eq_getElem?_getD]
theorem DI.zero(x:MS)(n:Nat):DI x n [z4] (d9 K4 [] z4 0):=by
 refine⟨by simp,by simp,fun s hs=> ?_,by simp,rfl,fun t j=> ?_,fun i hi=> ?_⟩
 ·simp only[List.mem_singleton]at hs;exact hs ▸ W4.z
 ·rw[rW rfl]
  constructor
  ·intro h
   split at h
   ·rename_i e
    cases h
    exact⟨0,by simp,rfl,(bX (K:=K4) rfl).1 e⟩
   ·cases h
  ·rintro⟨i,h1,rfl,h2⟩
   have:i=0:=by simpa using h1
   subst this
   replace h2:z4=t:=h2
   rw[if_pos ((bX (K:=K4) rfl).2 h2)]
   rfl
 ·have:i=0:=by simpa using hi
  subst this
  exact⟨[],fun c h=>by simp at h,Rch.nil x⟩
theorem DI.more{x:MS}{n:Nat}{st:List S4}{seen:List (S4×Int)}(h:DI x n st seen){t:S4}{w:Wd}(hw:Cls n w)(ht:Rch x w t)(hlt:st.length<300)(hn:bF K4 seen t=none):
  DI x n (st++[t]) (d9 K4 seen t (st.length:Int)):=by
 have hnot:∀i,i<st.length→st.getD i z4≠t:=fun i hi e=>by
  have:=(h.sn t (i:Int)).2 ⟨i,hi,rfl,e⟩
  rw[hn]at this;cases this
 refine⟨by simp,by simp;omega,fun s hs=> ?_,?_,?_,fun t' j=> ?_,fun i hi=> ?_⟩
 ·rcases List.mem_append.1 hs with h' | h'
  ·exact h.w4 s h'
  ·simp only[List.mem_singleton]at h';exact h' ▸ ht.1
 ·rw[List.nodup_append]
  refine⟨h.nd,by simp,fun a ha b hb=> ?_⟩
  simp only[List.mem_singleton]at hb
  subst hb
  obtain⟨i,hi,e⟩:=List.getElem_of_mem ha
  intro e2
  exact hnot i hi (by rw[cY hi,e,e2])
 ·rw[bN (by have:=h.ne;omega),h.z]
 ·rw[rW rfl]
  constructor
  ·intro h'
   split at h'
   ·rename_i e
    cases h'
    exact⟨st.length,by simp,rfl,by rw[cV];exact(bX (K:=K4) rfl).1 e⟩
   ·obtain⟨i,h1,h2,h3⟩:=(h.sn t' j).1 h'
    exact⟨i,by simp;omega,h2,by rw[bN h1];exact h3⟩
  ·rintro⟨i,h1,rfl,h2⟩
   by_cases e:i=st.length
   ·subst e
    rw[cV]at h2
    rw[if_pos ((bX (K:=K4) rfl).2 h2)]
   ·have hi:i<st.length:=by simp at h1;omega
    rw[bN hi]at h2
    rw[if_neg (fun e2=>hnot i hi (h2.trans ((bX (K:=K4) rfl).1 e2).symm))]
    exact(h.sn t' _).2 ⟨i,hi,rfl,h2⟩
 ·by_cases e:i=st.length
  ·subst e
   rw[cV]
   exact⟨w,hw,ht⟩
  ·have hi:i<st.length:=by simp at hi;omega
   rw[bN hi]
   exact h.rc i hi
section
variable{x:MS}{n:Nat}(hn:n≤24)(hl:x.1.length≤200)(hu:∀y∈x.1,U32 y)
include hn hl hu
theorem aEk{m:S4}{k:Nat}{st:List S4}{seen:List (S4×Int)}(hD:DI x n st seen)(hk:k<st.length)(hm:W4 m)(hM:∀q,me m q=true↔May x.2.1 (Fst x.2.2) (st.getD k z4) q):
  ∃r,iter (fT (n:Int) x.1 m.1 m.2.1 m.2.2.1 m.2.2.2) (st,seen,List.replicate (n:Int).toNat (0:Int),0)=some r ∧
   ((∃st' seen' row,r = .inl (st',seen',row)∧DI x n st' seen'∧(∃t,st'=st++t)∧row.length=n∧∀c,c<n→∃j,j<st'.length∧row.getD c 0=(j:Int)∧Stp x (st.getD k z4) c (st'.getD j z4))∨(r = .inr (([],[]),27)∧P3 x n)):=by
 refine cC (I:=fun q=>∃(c:Nat) (st':List S4) (seen':List (S4×Int)) (row:List Int),q=(st',seen',row,(c:Int))∧c≤n∧DI x n st' seen'∧(∃t,st'=st++t)∧row.length=n∧∀d,d<c→∃j,j<st'.length∧row.getD d 0=(j:Int)∧Stp x (st.getD k z4) d (st'.getD j z4))
  (μ:=fun q=>n - q.2.2.2.toNat) _ ?_ ?_
 ·rintro q ⟨c,st',seen',row,rfl,hc,hD',⟨t0,rfl⟩,hr,hd⟩
  by_cases hlt:c<n
  ·obtain⟨t,h5,hN⟩:=aEt (ss:=x.1) (m:=m) (c:=c) (by omega) hl hu hm
   have hS:Stp x (st.getD k z4) c t:=⟨m,hm,hM,hN⟩
   have c1:0≤(c:Int)∧(c:Int)<(row.length:Int):=by omega
   have c2:c<row.length:=by omega
   have hD'le:=hD'.le
   by_cases hs:∃j,bF K4 seen' t=some j
   ·obtain⟨j,hj⟩:=hs
    obtain⟨i,i1,i2,i3⟩:=(hD'.sn t j).1 hj
    subst i2
    refine .inl ⟨(st++t0,seen',row.set c (i:Int),((c+1:Nat):Int)),?_,⟨c+1,_,_,_,rfl,hlt,hD',⟨t0,rfl⟩,by simp[hr],fun d hdc=> ?_⟩,by simp only[Int.toNat_natCast];omega⟩
    ·unfold fT
     dsimp only
     rw[if_pos (by simp;omega),h5,iO (by omega)]
     simp only[Option.bind_some]
     have hj':bF K4 seen' (t.1,t.2.1,t.2.2.1,t.2.2.2)=some (i:Int):=hj
     rw[if_neg (by show ¬(!(bF K4 seen' (t.1,t.2.1,t.2.2.1,t.2.2.2)).isSome)=true;rw[hj'];simp)]
     simp only[Option.bind_some,Int.toNat_natCast,if_pos c1,if_pos c2]
     show some (Sum.inl (st++t0,seen',row.set c ((bF K4 seen' (t.1,t.2.1,t.2.2.1,t.2.2.2)).getD 0),((c+1:Nat):Int)))=_
     rw[hj']
     rfl
    ·by_cases e:d=c
     ·subst e
      exact⟨i,i1,by simp[List.getD_eq_getElem?_getD,c2],i3 ▸ hS⟩
     ·obtain⟨j,h1,h2,h3⟩:=hd d (by omega)
      exact⟨j,h1,by rw[←h2];simp only[List.getD_eq_getElem?_getD,List.getElem?_set_ne (Ne.symm e)],h3⟩
   ·have hnone:bF K4 seen' t=none:=by
     cases h:bF K4 seen' t with
     | none=>rfl
     | some j=>exact(hs ⟨j,h⟩).elim
    have hnone':bF K4 seen' (t.1,t.2.1,t.2.2.1,t.2.2.2)=none:=hnone
    by_cases hfull:300≤(st++t0).length
    ·refine .inr ⟨.inr (([],[]),27),?_,.inr ⟨rfl,hD'.full hfull⟩⟩
     unfold fT
     dsimp only
     rw[if_pos (by simp;omega),h5]
     simp only[Option.bind_some]
     rw[if_pos (by show(!(bF K4 seen' (t.1,t.2.1,t.2.2.1,t.2.2.2)).isSome)=true;rw[hnone'];rfl),if_pos (by simpa using(show(300:Int)≤((st++t0).length:Int) by omega))]
     rfl
    ·have hsk:st.getD k z4=(st++t0).getD k z4:=(bN hk).symm
     obtain⟨w,hw1,hw2⟩:=hD'.rc k (by simp;omega)
     rw[←hsk]at hw2
     have hDm:=hD'.more (t:=t) (w:=w++[(c:Int)]) (fun d hd=>by
      rcases List.mem_append.1 hd with h | h
      ·exact hw1 d h
      ·simp only[List.mem_singleton]at h;omega) (hw2.step (by omega) hS) (by omega) hnone
     refine .inl ⟨(st++t0++[t],d9 K4 seen' t ((st++t0).length:Int),row.set c ((st++t0).length:Int),((c+1:Nat):Int)),?_,⟨c+1,_,_,_,rfl,hlt,hDm,⟨t0++[t],by simp⟩,by simp[hr],fun d hdc=> ?_⟩,by simp only[Int.toNat_natCast];omega⟩
     ·unfold fT
      dsimp only
      rw[if_pos (by simp;omega),h5,iO (by omega)]
      simp only[Option.bind_some]
      rw[if_pos (by show(!(bF K4 seen' (t.1,t.2.1,t.2.2.1,t.2.2.2)).isSome)=true;rw[hnone'];rfl),if_neg (by simpa using(show ¬(300:Int)≤((st++t0).length:Int) by omega)),if_pos (by simp only[List.length_cons,List.length_nil];omega)]
      simp only[Option.bind_some,Int.toNat_natCast,if_pos c1,if_pos c2]
     ·by_cases e:d=c
      ·subst e
       exact⟨(st++t0).length,by simp,by simp[List.getD_eq_getElem?_getD,c2],by rw[cV];exact hS⟩
      ·obtain⟨j,h1,h2,h3⟩:=hd d (by omega)
       exact⟨j,by simp at h1 ⊢;omega,by rw[←h2];simp only[List.getD_eq_getElem?_getD,List.getElem?_set_ne (Ne.symm e)],by rw[bN h1];exact h3⟩
  ·have ec:c=n:=by omega
   subst ec
   refine .inr ⟨.inl (st++t0,seen',row),?_,.inl ⟨_,_,_,rfl,hD',⟨t0,rfl⟩,hr,hd⟩⟩
   unfold fT
   dsimp only
   rw[if_neg (by simp)]
 ·exact⟨0,st,seen,_,rfl,Nat.zero_le _,hD,⟨[],by simp⟩,by simp,fun d h=>absurd h (by omega)⟩
end
structure DA(x:MS)(n:Nat)(nx:List (List Int))(ou:List Int)(st:List S4):Prop where
 l1:nx.length=st.length
 l2:ou.length=st.length
 ne:1≤st.length
 le:st.length≤300
 w4:∀s∈st,W4 s
 nd:st.Nodup
 z:st.getD 0 z4=z4
 rc:∀i,i<st.length→∃w,Cls n w∧Rch x w (st.getD i z4)
 rw:∀i,i<st.length→(nx.getD i []).length=n
 go:∀i,i<st.length→∀c,c<n→∃j,j<st.length∧(nx.getD i []).getD c 0=(j:Int)∧Stp x (st.getD i z4) c (st.getD j z4)
 ob:∀i,i<st.length→U32 (ou.getD i 0)∧∀r,bt (ou.getD i 0) r=true↔Bit x.2.2 (st.getD i z4) r
theorem aEx{l:List Tree}(hf:Fit l){n:Nat}(h1:1≤n)(hn:n≤24):∃x,mkL l=some x∧PI l l.length x ∧
  ((f7 l (n:Int)=some (([],[]),27)∧P3 x n)∨∃nx ou st,f7 l (n:Int)=some ((nx,ou),0)∧DA x n nx ou st):=by
 obtain⟨x,hx,hP,hL1⟩:=aED hf
 refine⟨x,hx,hP,?_⟩
 have hcl:=hf.2.2
 have hpos:pos l l.length≤200:=Nat.le_trans (aCX l _) hcl
 have hsl:=hP.sl
 have hfl:=hP.fl
 have hpl:=hP.pl
 have h24:=hf.1
 obtain⟨m0,hL2,hm0,hF⟩:=aEA (ps:=x.2.2) (by omega) (fun i hi=>(hP.pw i (by omega)).1)
 have hmay:∀(s:S4) q,May x.2.1 (fun q=>me m0 q=true) s q↔May x.2.1 (Fst x.2.2) s q:=fun s q=>or_congr (hF q) Iff.rfl
 have key:∃r,iter (fS (n:Int) x.1 x.2.1 x.2.2 m0.1 m0.2.1 m0.2.2.1 m0.2.2.2) ([],[],[z4],d9 K4 [] z4 0,0)=some r∧((∃nx ou st,r = .inl (nx,ou)∧DA x n nx ou st)∨(r = .inr (([],[]),27)∧P3 x n)):=by
  refine cC (I:=fun q=>∃(k:Nat) (nx:List (List Int)) (ou:List Int) (st:List S4) (seen:List (S4×Int)),q=(nx,ou,st,seen,(k:Int))∧k≤st.length∧DI x n st seen∧nx.length=k∧ou.length=k ∧
    (∀i,i<k→(nx.getD i []).length=n)∧(∀i,i<k→∀c,c<n→∃j,j<st.length∧(nx.getD i []).getD c 0=(j:Int)∧Stp x (st.getD i z4) c (st.getD j z4))∧(∀i,i<k→U32 (ou.getD i 0)∧∀r,bt (ou.getD i 0) r=true↔Bit x.2.2 (st.getD i z4) r))
   (μ:=fun q=>300 - q.2.2.2.2.toNat) _ ?_ ?_
  ·rintro q ⟨k,nx,ou,st,seen,rfl,hk,hD,hnx,hou,hrw,hgo,hob⟩
   have hle:=hD.le
   by_cases hlt:k<st.length
   ·have c1:0≤(k:Int)∧(k:Int)<(st.length:Int):=by omega
    have hW:W4 (st.getD k z4):=hD.w4 _ (dN hlt)
    obtain⟨m,hL3,hm,hM⟩:=aD1 (f:=x.2.1) (st:=st) (k:=k) (by omega) hP.fw hW hm0
    obtain⟨b,hL4,hb1,hb2⟩:=aEy (ps:=x.2.2) (st:=st) (k:=k) (by omega) (fun i hi=>(hP.pw i (by omega)).2) hW
    obtain⟨r,hL6,hr⟩:=aEk hn (by omega) hP.su hD hlt hm (fun q=>(hM q).trans (hmay _ q))
    have c2:0≤(n:Int)∧(n:Int)≤(n:Int)∧(8:Int)*(n:Int)≤281474976710656∧(n:Int)≤9223372036854775807:=by omega
    rcases hr with⟨st',seen',row,rfl,hD',⟨t0,rfl⟩,hrow,hgr⟩ | ⟨rfl,hfu⟩
    ·refine .inl ⟨(nx++[row],ou++[b],st++t0,seen',((k+1:Nat):Int)),?_,⟨k+1,_,_,_,_,rfl,by simp;omega,hD',by simp[hnx],by simp[hou],fun i hi=> ?_,fun i hi c hc=> ?_,fun i hi=> ?_⟩,by simp only[Int.toNat_natCast];omega⟩
     ·unfold fS
      dsimp only
      rw[if_pos (by simp;omega),if_pos c1,Int.toNat_natCast,if_pos hlt,hL3,iO (by omega)]
      simp only[Option.bind_some]
      rw[hL4]
      simp only[Option.bind_some]
      rw[if_pos c2,hL6]
      simp only[Option.bind_some]
      rw[if_pos (by simp;omega),if_pos (by simp;omega)]
     ·by_cases e:i=k
      ·subst e;subst hnx;rw[cV];exact hrow
      ·rw[bN (by omega)];exact hrw i (by omega)
     ·by_cases e:i=k
      ·subst e;subst hnx;rw[cV,bN hlt];exact hgr c hc
      ·obtain⟨j,h1,h2,h3⟩:=hgo i (by omega) c hc
       rw[bN (show i<nx.length by omega),bN (show i<st.length by omega)]
       exact⟨j,by simp;omega,h2,by rw[bN h1];exact h3⟩
     ·by_cases e:i=k
      ·subst e;subst hou;rw[cV,bN hlt];exact⟨hb1,hb2⟩
      ·rw[bN (show i<ou.length by omega),bN (show i<st.length by omega)];exact hob i (by omega)
    ·refine .inr ⟨.inr (([],[]),27),?_,.inr ⟨rfl,hfu⟩⟩
     unfold fS
     dsimp only
     rw[if_pos (by simp;omega),if_pos c1,Int.toNat_natCast,if_pos hlt,hL3]
     simp only[Option.bind_some]
     rw[hL4]
     simp only[Option.bind_some]
     rw[if_pos c2,hL6]
     rfl
   ·have ek:k=st.length:=by omega
    refine .inr ⟨.inl (nx,ou),?_,.inl ⟨nx,ou,st,rfl,⟨by omega,by omega,hD.ne,hD.le,hD.w4,hD.nd,hD.z,hD.rc,fun i hi=>hrw i (by omega),fun i hi=>hgo i (by omega),fun i hi=>hob i (by omega)⟩⟩⟩
    unfold fS
    dsimp only
    rw[if_neg (by simp;omega)]
  ·exact⟨0,[],[],[z4],_,rfl,by simp,DI.zero x n,rfl,rfl,fun i h=>absurd h (by omega),fun i h=>absurd h (by omega),fun i h=>absurd h (by omega)⟩
 obtain⟨r,hL7,hr⟩:=key
 have hgen:f7 l (n:Int)=(some r).bind (fun q=>match q with
   | .inl (v328,v329)=>some ((v328,v329),(0:Int))
   | .inr ((r485,r486))=>some (r485,r486)):=by
  unfold f7
  rw[if_neg (by simp;omega),if_neg (by simp;omega)]
  simp only[Option.bind_some]
  rw[if_neg (by simp;omega),hL1]
  simp only[Option.bind_some]
  rw[if_neg (by simp),hL2]
  simp only[Option.bind_some]
  have hL7':iter (fS (n:Int) x.1 x.2.1 x.2.2 m0.1 m0.2.1 m0.2.2.1 m0.2.2.2) (([]:List (List Int)),([]:List Int),([((0:Int),((0:Int),((0:Int),(0:Int))))]:List (Int×Int×Int×Int)),(d9 K4 ([]:List ((Int×Int×Int×Int)×Int)) ((0:Int),((0:Int),((0:Int),(0:Int)))) (0:Int)),(0:Int))=some r:=hL7
  rw[hL7']
  rfl
 rcases hr with⟨nx,ou,st,rfl,hD⟩ | ⟨rfl,hfu⟩
 ·exact .inr ⟨nx,ou,st,hgen,hD⟩
 ·exact .inl ⟨hgen,hfu⟩
end Go.Proofs.YtacpjjgochokcaaDoor.T
namespace Go.Proofs.YtacpjjgochokcaaDoor.T
open Go Go.Tv Go.Proofs
theorem y8{l:List Tree}{p:Nat}:∀m,p<pos l m→∃j,j<m∧pos l j≤p∧p<pos l (j+1)
 | 0,h=>by simp[pos,cR]at h
 | m+1,h=>by
  by_cases h':p<pos l m
  ·obtain⟨j,h1,h2⟩:=y8 m h'
   exact⟨j,by omega,h2⟩
  ·exact⟨m,by omega,by omega,h⟩
theorem yM{l:List Tree}{p i j:Nat}(h1:pos l i≤p∧p<pos l (i+1))(h2:pos l j≤p∧p<pos l (j+1)):i=j:=by
 rcases Nat.lt_trichotomy i j with h | h | h
 ·have:=p7 l (show i+1≤j by omega);omega
 ·exact h
 ·have:=p7 l (show j+1≤i by omega);omega
section
variable{l:List Tree}{x:MS}
theorem glR(hP:PI l l.length x){r:Nat}(hr:r<l.length):Gl (lab x.1) (FG x.2.1 (pos l r) (pos l (r+1))) ((x.2.2.getD r p0).1=true) (fun p=>me (x.2.2.getD r p0).2.1 p=true) (fun p=>me (x.2.2.getD r p0).2.2 p=true) (pos l r) (pos l (r+1)) (Lg (l.getD r (.node 0 0 []))):=by
 refine hP.gl r hr _ fun p c h1 h2=> ?_
 have:=p7 l (show r+1≤l.length by omega)
 have hsl:=hP.sl
 exact⟨fun h=>h.2,fun h=>⟨by omega,h⟩⟩
theorem N5(hP:PI l l.length x){p q:Nat}(h:Fe x.2.1 p q):∃j,j<l.length∧(pos l j≤p∧p<pos l (j+1))∧pos l j≤q∧q<pos l (j+1):=by
 have hfl:=hP.fl
 obtain⟨j,h1,h2,h3⟩:=y8 (l:=l) l.length (show p<pos l l.length by have:=h.1;omega)
 exact⟨j,h1,⟨h2,h3⟩,((glR hP h1).ff p q ⟨⟨h2,h3⟩,h.2⟩).2⟩
theorem aCl(hP:PI l l.length x){w:Wd}{s:S4}(h:Rch x w s){r:Nat}(hr:r<l.length):Bit x.2.2 s r↔∃k,k≤w.length∧Lg (l.getD r (.node 0 0 [])) (w.drop k):=by
 have hfl:=hP.fl
 have hpl:=hP.pl
 have hm:=p7 l (show r+1≤l.length by omega)
 rw[←Sx.ends (F:=Fe x.2.1) (Fst:=Fst x.2.2) (glR hP hr) (fun p q h1 h2=> ?_) (fun p q h1 h2 h3=> ?_) (fun p h1 h2=> ?_) w]
 ·unfold Bit
  constructor
  ·rintro⟨_,h1 | ⟨p,h1,h2⟩⟩
   ·exact .inl h1
   ·exact .inr ⟨p,(h.2 p).1 h1,h2⟩
  ·rintro(h1 | ⟨p,h1,h2⟩)
   ·exact⟨by omega,.inl h1⟩
   ·exact⟨by omega,.inr ⟨p,(h.2 p).2 h1,h2⟩⟩
 ·exact⟨fun h=>⟨⟨h1,h2⟩,h.2⟩,fun h=>⟨by omega,h.2⟩⟩
 ·obtain⟨j,_,k1,k2⟩:=N5 hP h1
  have:=yM k2 ⟨h2,h3⟩
  subst this
  exact k1
 ·constructor
  ·rintro⟨i,hi,h3⟩
   have:=yM ((glR hP (show i<l.length by omega)).fi p h3) ⟨h1,h2⟩
   subst this
   exact h3
  ·exact fun h3=>⟨r,by omega,h3⟩
end
theorem Cls.take{n:Nat}{w:Wd}(h:Cls n w)(k:Nat):Cls n (w.take k):=fun c hc=>h c (List.mem_of_mem_take hc)
theorem aFQ{x:MS}{n:Nat}(hn:n≤24){nx:List (List Int)}{ou:List Int}{st:List S4}(hD:DA x n nx ou st){w:Wd}(hw:Cls n w)(hl:w.length≤900000):
  ∃r,jC nx ou w=some r∧r.length=w.length+1∧∀k,k≤w.length→∃j,j<st.length∧r.getD k 0=(j:Int)∧Rch x (w.take k) (st.getD j z4):=by
 have hl1:=hD.l1
 have hne:=hD.ne
 have key:∃r,iter (eR nx w) ([0],0,0)=some r∧r.length=w.length+1∧∀k,k≤w.length→∃j,j<st.length∧r.getD k 0=(j:Int)∧Rch x (w.take k) (st.getD j z4):=by
  refine cC (I:=fun q=>∃(k:Nat) (out:List Int) (j:Nat),q=(out,(j:Int),(k:Int))∧k≤w.length∧out.length=k+1∧j<st.length∧Rch x (w.take k) (st.getD j z4)∧∀i,i≤k→∃j,j<st.length∧out.getD i 0=(j:Int)∧Rch x (w.take i) (st.getD j z4)) (μ:=fun q=>w.length - q.2.2.toNat) _ ?_ ?_
  ·rintro q ⟨k,out,j,rfl,hk,ho,hj,hR,hi⟩
   by_cases hlt:k<w.length
   ·have hc:=hw _ (dN (d:=0) hlt)
    obtain⟨c,hcn,hce⟩:∃c:Nat,c<n∧w.getD k 0=(c:Int):=⟨(w.getD k 0).toNat,by omega,by omega⟩
    have c1:0≤(k:Int)∧(k:Int)<(w.length:Int):=by omega
    have c2:0≤(j:Int)∧(j:Int)<(nx.length:Int):=by omega
    have hrow:=hD.rw j hj
    obtain⟨j',h1,h2,h3⟩:=hD.go j hj c hcn
    have hR':=hR.step (by omega) h3
    have ht:w.take (k+1)=w.take k++[(c:Int)]:=by rw[eW (d:=0) hlt,hce]
    rw[←ht]at hR'
    refine .inl ⟨(out++[(j':Int)],(j':Int),((k+1:Nat):Int)),?_,⟨k+1,_,j',rfl,hlt,by simp[ho],h1,hR',fun i hi'=> ?_⟩,by simp only[Int.toNat_natCast];omega⟩
    ·unfold eR
     dsimp only
     rw[if_pos (by simp;omega),if_pos c1,Int.toNat_natCast,hce,aR (by omega) (by omega),Int.toNat_natCast,Int.toNat_natCast,h2]
     rw[if_neg (by simp <;> omega),if_pos c2]
     simp only[Option.bind_some]
     rw[if_neg (by rw[hrow];simp;omega),if_pos c2,if_pos (by rw[hrow];omega),if_pos (by simp;omega)]
     simp only[Int.natCast_add,Int.natCast_one]
    ·by_cases e:i=k+1
     ·subst e
      rw[←ho,cV,ho]
      exact⟨j',h1,rfl,hR'⟩
     ·rw[bN (by omega)];exact hi i (by omega)
   ·have ek:k=w.length:=by omega
    subst ek
    refine .inr ⟨out,?_,ho,hi⟩
    unfold eR
    dsimp only
    rw[if_neg (by simp)]
  ·refine⟨0,[0],0,rfl,Nat.zero_le _,rfl,by omega,?_,fun i hi=>⟨0,by omega,?_,?_⟩⟩
   ·rw[hD.z];exact Rch.nil x
   ·have:i=0:=by omega
    subst this;rfl
   ·have:i=0:=by omega
    subst this
    rw[hD.z];exact Rch.nil x
 obtain⟨r,h1,h2⟩:=key
 refine⟨r,?_,h2⟩
 unfold jC
 rw[if_neg (by rw[beq_iff_eq];omega),h1]
 rfl
end Go.Proofs.YtacpjjgochokcaaDoor.T
namespace Go.Proofs.YtacpjjgochokcaaDoor.T
open Go Go.Tv Go.Proofs
theorem aBg(l:List Int)(hl:l.length≤4611686018427387904):fK l=some (l.foldl max 0):=by
 unfold fK
 have h:=bZ (body:=fZ l) (fun k=>((l.take k).foldl max 0,(k:Int))) l.length (r:=l.foldl max 0) (fun k hk=>by
  have e:(l.take (k+1)).foldl max 0=max ((l.take k).foldl max 0) (l.getD k 0):=by
   rw[List.take_add_one,List.foldl_append]
   have:l[k]? = some l[k]:=List.getElem?_eq_getElem hk
   simp[this,List.getD_eq_getElem?_getD]
  simp only[fZ]
  rw[if_pos (by simpa using hk),if_pos ⟨by omega,by omega⟩,aR (by omega) (by omega)]
  simp[e]) (by simp[fZ])
 have h':iter (fZ l) ((0:Int),(0:Int))=some (l.foldl max 0):=h
 rw[h']
 rfl
def kN(x:Int):List Int:=[IntKind.u8.wrap x,IntKind.u8.wrap (Int.fdiv x (2 ^ (min (8:Int).toNat IntKind.i64.bits))),IntKind.u8.wrap (Int.fdiv x (2 ^ (min (16:Int).toNat IntKind.i64.bits))),IntKind.u8.wrap (Int.fdiv x (2 ^ (min (24:Int).toNat IntKind.i64.bits)))]
theorem aCG(l:List Int)(hl:l.length≤1000000):iter (eI l) (([]:List Int),(0:Int))=some (l.flatMap kN):=by
 have h:=bZ (body:=eI l) (fun k=>((l.take k).flatMap kN,(k:Int))) l.length (r:=l.flatMap kN) (fun k hk=>by
  have e:(l.take (k+1)).flatMap kN=(l.take k).flatMap kN++kN (l.getD k 0):=by
   rw[List.take_add_one,List.flatMap_append]
   have:l[k]? = some l[k]:=List.getElem?_eq_getElem hk
   simp[this,List.getD_eq_getElem?_getD]
  have hlen:((l.take k).flatMap kN).length=4*k:=by
   have:∀m:List Int,(m.flatMap kN).length=4*m.length:=fun m=>by
    induction m with
    | nil=>rfl
    | cons x m ih=>simp only[List.flatMap_cons,List.length_append,ih,kN,List.length_cons,List.length_nil];omega
   rw[this,List.length_take];omega
  simp only[eI]
  rw[if_pos (by simpa using hk),if_pos ⟨by omega,by omega⟩,if_pos (by simpa using hk),if_pos (by omega),if_pos (by omega),if_pos (by omega)]
  rw[if_pos ⟨by rw[hlen];simp only[List.length_cons,List.length_nil];omega,by rw[hlen];simp only[List.length_cons,List.length_nil];omega⟩,aR (by omega) (by omega)]
  simp only[Int.toNat_natCast,e]
  rfl) (by simp[eI])
 simpa using h
end Go.Proofs.YtacpjjgochokcaaDoor.T
namespace Go.Proofs.YtacpjjgochokcaaDoor.T
open Go Go.Tv Go.Proofs
def cI(B:Nat→List UInt8):Nat→List (List UInt8)
 | 0=>[]
 | s+1=>if B s∈cI B s then cI B s else cI B s++[B s]
def kQ(B:Nat→List UInt8)(n s:Nat):Int:=((cI B n).idxOf (B s):Int)
def dJ:Nat→List (List UInt8)→List (List UInt8×Int)
 | _,[]=>[]
 | k,b::d=>(b,(k:Int))::dJ (k+1) d
theorem xY(B:Nat→List UInt8)(s:Nat):∀j,∃l,cI B (s+j)=cI B s++l
 | 0=>⟨[],by simp⟩
 | j+1=>by
  obtain⟨l,h⟩:=xY B s j
  rw[show s+(j+1)=(s+j)+1 from rfl]
  simp only[cI]
  split
  ·exact⟨l,h⟩
  ·exact⟨l++[B (s+j)],by rw[h,List.append_assoc]⟩
theorem jH{B:Nat→List UInt8}{s n:Nat}(h:s<n):B s∈cI B n:=by
 obtain⟨l,e⟩:=xY B (s+1) (n - (s+1))
 rw[show s+1+(n - (s+1))=n by omega]at e
 rw[e]
 refine List.mem_append_left _ ?_
 simp only[cI]
 split
 ·assumption
 ·simp
theorem rK(B:Nat→List UInt8):∀n,(cI B n).Nodup
 | 0=>List.nodup_nil
 | n+1=>by
  simp only[cI]
  split
  ·exact rK B n
  ·rename_i h
   refine List.nodup_append.2 ⟨rK B n,by simp,fun a ha b hb e=> ?_⟩
   simp only[List.mem_singleton]at hb
   subst hb
   subst e
   exact h ha
theorem wQ{B:Nat→List UInt8}:∀ {n:Nat} {b:List UInt8},b∈cI B n→∃s,s<n∧B s=b
 | 0,b,h=>by simp[cI]at h
 | n+1,b,h=>by
  simp only[cI]at h
  split at h
  ·obtain⟨s,h1,h2⟩:=wQ h
   exact⟨s,by omega,h2⟩
  ·rcases List.mem_append.1 h with h | h
   ·obtain⟨s,h1,h2⟩:=wQ h
    exact⟨s,by omega,h2⟩
   ·simp at h
    exact⟨n,by omega,h.symm⟩
theorem mH(B:Nat→List UInt8):∀n,(cI B n).length≤n
 | 0=>by simp[cI]
 | n+1=>by
  have:=mH B n
  simp only[cI]
  split
  ·omega
  ·simp;omega
theorem aA3{b:List UInt8}:∀ {d l:List (List UInt8)},b∈d→(d++l).idxOf b=d.idxOf b
 | [],_,h=>by simp at h
 | x::d,l,h=>by
  simp only[List.cons_append,List.idxOf_cons]
  by_cases e:x=b
  ·subst e;simp
  ·have:(x == b)=false:=by simpa using e
   rw[this]
   rcases List.mem_cons.1 h with h | h
   ·exact absurd h.symm e
   ·rw[aA3 (l:=l) h]
theorem aA7{b:List UInt8}:∀ {d:List (List UInt8)},b ∉ d→(d++[b]).idxOf b=d.length
 | [],_=>by simp
 | x::d,h=>by
  have e:(x == b)=false:=by
   simp only[List.mem_cons,not_or]at h
   simpa using fun e=>h.1 e.symm
  simp only[List.cons_append,List.idxOf_cons,e,cond_false,List.length_cons]
  rw[aA7 (fun hm=>h (List.mem_cons_of_mem _ hm))]
theorem aA9{B:Nat→List UInt8}{s n:Nat}(h:s<n):kQ B n s=((cI B (s+1)).idxOf (B s):Int):=by
 obtain⟨l,e⟩:=xY B (s+1) (n - (s+1))
 rw[show s+1+(n - (s+1))=n by omega]at e
 unfold kQ
 rw[e,aA3 (jH (Nat.lt_succ_self s))]
theorem zT(b:List UInt8):∀(d:List (List UInt8)) (k:Nat),bF .str (dJ k d) b=if b∈d then some ((k+d.idxOf b:Nat):Int)else none
 | [],k=>rfl
 | x::d,k=>by
  have ih:=zT b d (k+1)
  simp only[dJ,bF]
  by_cases e:x=b
  ·subst e
   rw[if_pos ((bX (K:= .str) rfl).2 rfl)]
   simp
  ·rw[if_neg (fun h=>e ((bX (K:= .str) rfl).1 h)),ih]
   have e':¬b=x:=fun h=>e h.symm
   by_cases hm:b∈d
   ·rw[if_pos hm,if_pos (List.mem_cons_of_mem _ hm)]
    simp only[List.idxOf_cons]
    have:(x == b)=false:=by simpa using e
    rw[this]
    simp only[cond_false,Option.some.injEq]
    omega
   ·rw[if_neg hm,if_neg (by simp[e',hm])]
theorem vX(b:List UInt8):∀(d:List (List UInt8)) (k:Nat),dJ k (d++[b])=dJ k d++[(b,((k+d.length:Nat):Int))]
 | [],k=>rfl
 | x::d,k=>by
  simp only[List.cons_append,dJ,vX b d (k+1),List.length_cons]
  rw[show k+1+d.length=k+(d.length+1) by omega]
theorem oX:∀(d:List (List UInt8)) (k:Nat),(dJ k d).length=d.length
 | [],k=>rfl
 | x::d,k=>by simp[dJ,oX d (k+1)]
theorem H3:∀(d:List (List UInt8)) (k:Nat) (p:List UInt8×Int),p∈dJ k d→p.1∈d
 | [],k,p,h=>by simp[dJ]at h
 | x::d,k,p,h=>by
  simp only[dJ,List.mem_cons]at h ⊢
  rcases h with rfl | h
  ·exact .inl rfl
  ·exact .inr (H3 d (k+1) p h)
noncomputable def splitL (key:Int→List Int→Option (List Int)) (d1:Int):((List ((List UInt8)×Int))×(List Int)×(List Int)×Int)→Option (((List ((List UInt8)×Int))×(List Int)×(List Int)×Int)⊕(List Int)):=fun((v19,v20,v21,v22):(List ((List UInt8)×Int))×(List Int)×(List Int)×Int) =>
 (if(decide (v22<d1))=true then(if 0≤(0:Int)∧(0:Int)≤(v21.length:Int)then((key v22 (v21.take (0:Int).toNat)).bind fun(r8:List Int) =>
 ((iter (eI r8) (([]:List Int),(0:Int))).bind fun(v28:List Int)=>(((if(!((bF .str v19 (bD v28)).isSome))=true then some (((d9 .str v19 (bD v28) (v19.length:Int)),(v19.length:Int)))
 else some ((v19,((bF .str v19 (bD v28)).getD (0:Int)))))).bind fun((v29,v30):(List ((List UInt8)×Int))×Int)=>(if 0≤v22∧v22<(v20.length:Int)then(if v22.toNat<v20.length then some (Sum.inl (v29,(v20.set v22.toNat v30),r8,(IntKind.i64.wrap (v22+(1:Int)))))else none)else none))))else none)
 else some (Sum.inr v20))
theorem aDb(i1:List (List Int))(i2:List Int)(d:Int):lU d i1 i2=splitL (fun s k=>dP s i1 i2 k) d:=rfl
theorem aBw(i1:List Int)(i2:List (List Int))(i3:List Int)(d:Int):jL d i1 i2 i3=splitL (fun s k=>dR s i1 i2 i3 k) d:=rfl
def oQ(l:List Int):List UInt8:=bD (l.flatMap kN)
theorem F9(key:Int→List Int→Option (List Int))(K:Nat→List Int)(n:Nat)(hn:n≤1000000)(hK:∀s,s<n→key (s:Int) []=some (K s))(hl:∀s,s<n→(K s).length≤1000000):
  iter (splitL key (n:Int)) (([]:List (List UInt8×Int)),List.replicate n (0:Int),([]:List Int),(0:Int))=some ((List.range n).map (kQ (fun s=>oQ (K s)) n)):=by
 generalize hB:(fun s=>oQ (K s))=B
 have hBs:∀s,B s=oQ (K s):=fun s=>by rw[←hB]
 have h:=bZ (body:=splitL key (n:Int)) (fun s=>(dJ 0 (cI B s),(List.range s).map (kQ B n)++List.replicate (n - s) (0:Int),(if s=0 then[]else K (s - 1)),(s:Int))) n (r:=(List.range n).map (kQ B n)) (fun s hs=>by
  simp only[splitL]
  rw[if_pos (by simpa using hs),if_pos ⟨by omega,by omega⟩]
  have e0:(if s=0 then([]:List Int)else K (s - 1)).take (0:Int).toNat=[]:=by simp
  rw[e0,hK s hs]
  simp only[Option.bind_some]
  rw[aCG (K s) (hl s hs)]
  simp only[Option.bind_some]
  have eb:bD ((K s).flatMap kN)=B s:=(hBs s).symm
  rw[eb,zT]
  have hlen:((List.range s).map (kQ B n)++List.replicate (n - s) (0:Int)).length=n:=by simp;omega
  have hset:∀v:Int,v=kQ B n s→((List.range s).map (kQ B n)++List.replicate (n - s) (0:Int)).set s v=(List.range (s+1)).map (kQ B n)++List.replicate (n - (s+1)) (0:Int):=fun v hv=>by
   subst hv
   rw[List.set_append_right _ _ (by simp),List.range_succ,List.map_append]
   simp only[List.length_map,List.length_range,Nat.sub_self,List.append_assoc]
   rw[show n - s=(n - (s+1))+1 by omega,List.replicate_succ]
   rfl
  have hw:IntKind.i64.wrap ((s:Int)+1)=((s+1:Nat):Int):=by rw[aR (by omega) (by omega)];omega
  by_cases hm:B s∈cI B s
  ·have hd:cI B (s+1)=cI B s:=by simp only[cI];rw[if_pos hm]
   rw[if_pos hm]
   simp only[Option.isSome_some,Bool.not_true,Bool.false_eq_true,if_false,Option.bind_some,Option.getD_some]
   rw[if_pos ⟨by omega,by rw[hlen];omega⟩,if_pos (by rw[hlen];simpa using hs),hw]
   simp only[Int.toNat_natCast]
   rw[hset _ (by rw[aA9 hs,hd];simp),hd]
   simp
  ·have hd:cI B (s+1)=cI B s++[B s]:=by simp only[cI];rw[if_neg hm]
   rw[if_neg hm]
   simp only[Option.isSome_none,Bool.not_false,if_true,Option.bind_some]
   rw[if_pos ⟨by omega,by rw[hlen];omega⟩,if_pos (by rw[hlen];simpa using hs),hw]
   simp only[Int.toNat_natCast]
   have hms:d9 .str (dJ 0 (cI B s)) (B s) ((dJ 0 (cI B s)).length:Int)=dJ 0 (cI B (s+1)):=by
    rw[uR (K:= .str) rfl (fun p hp e=>hm (by rw[←e];exact H3 _ _ _ hp)),hd,vX,oX]
    simp
   rw[hms,hset _ (by rw[aA9 hs,hd,aA7 hm,oX])]
   simp) (by simp[splitL])
 have h0:(dJ 0 (cI B 0),(List.range 0).map (kQ B n)++List.replicate (n - 0) (0:Int),(if 0=0 then([]:List Int)else K (0 - 1)),((0:Nat):Int))=(([]:List (List UInt8×Int)),List.replicate n (0:Int),([]:List Int),(0:Int)):=by simp[cI,dJ]
 rw[←h0]
 exact h
end Go.Proofs.YtacpjjgochokcaaDoor.T
