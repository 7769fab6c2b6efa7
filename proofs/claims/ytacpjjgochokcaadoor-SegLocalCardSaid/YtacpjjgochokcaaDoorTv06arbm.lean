/- The program's maker: what is known of an expression. -/
import Derived.Test.YtacpjjgochokcaaDoorTvZcm
namespace Go.Proofs.YtacpjjgochokcaaDoor.T
open Go Go.Tv Go.Proofs
def FG(fol:List S4)(a b p q:Nat):Prop:=(a≤p∧p<b)∧me (fol.getD p z4) q=true
structure Mk(s0:List Int)(f0:List S4)(n:Nat)(s:List Int)(f:List S4)(nu:Bool)(fi la:S4)(A:Wd→Prop):Prop where
 len:s.length=s0.length+n
 pre:∃l,s=s0++l
 fl:f.length=s.length
 fw:∀x∈f,W4 x
 fo:∀i,i<s0.length→f.getD i z4=f0.getD i z4
 su:(∀y∈s0,U32 y)→∀y∈s,U32 y
 w1:W4 fi
 w2:W4 la
 gl:∀lab:Nat→Int→Prop,(∀p c,s0.length≤p→p<s.length→(lab p c↔P5 (s.getD p 0) c))→Gl lab (FG f s0.length s.length) (nu=true) (fun p=>me fi p=true) (fun p=>me la p=true) s0.length s.length A
structure LK(f:List S4)(fr to:S4)(f':List S4):Prop where
 fl:f'.length=f.length
 fw:∀x∈f',W4 x
 me:∀i,i<f.length→∀j,me (f'.getD i z4) j=(me (f.getD i z4) j || (me fr i && me to j))
theorem qH{f:List S4}(h:∀x∈f,W4 x)(i:Nat):W4 (f.getD i z4):=by
 rcases Nat.lt_or_ge i f.length with hi | hi
 ·exact h _ (dN hi)
 ·rw[List.getD_eq_getElem?_getD,List.getElem?_eq_none hi];exact W4.z
theorem LK.same{f f':List S4}{fr to:S4}(h:LK f fr to f')(hf:∀x∈f,W4 x){i:Nat}(hi:i<f.length)(hn:Tv.me fr i=false):f'.getD i z4=f.getD i z4 :=
 aCD (qH h.fw i) (qH hf i) fun j=>by rw[h.me i hi j,hn];simp
theorem aBj{f:List S4}{fr to:S4}(hl:f.length≤200)(hf:∀x∈f,W4 x)(h1:W4 fr)(h2:W4 to)(b:Bool)(s:List Int):∃f',c9 fr.1 fr.2.1 fr.2.2.1 fr.2.2.2 to.1 to.2.1 to.2.2.1 to.2.2.2 b s f=some f'∧LK f fr to f':=by
 have key:∃r,iter (b7 fr.1 fr.2.1 fr.2.2.1 fr.2.2.2 to.1 to.2.1 to.2.2.1 to.2.2.2 f) (f,(0:Int))=some r∧LK f fr to r:=by
  refine cC (I:=fun q=>∃k:Nat,q.2=(k:Int)∧k≤f.length∧q.1.length=f.length∧(∀x∈q.1,W4 x)∧∀i,i<f.length→∀j,me (q.1.getD i z4) j=(me (f.getD i z4) j || (decide (i<k) && me fr i && me to j))) (μ:=fun q=>f.length - q.2.toNat) _ ?_ ?_
  ·rintro⟨g,i⟩ ⟨k,rfl,hk,hg,hw,hm⟩
   dsimp only at hg hw hm
   by_cases hlt:k<f.length
   ·have c5:IntKind.i64.wrap ((k:Int)+1)=((k+1:Nat):Int):=by rw[aR (by omega) (by omega)];omega
    have c1:0≤(k:Int)∧(k:Int)<(g.length:Int):=by omega
    have c2:k<g.length:=by omega
    have hh:=X2 h1 (show k<256 by omega)
    cases hb:me fr k with
    | false =>
     refine .inl ⟨(g,((k+1:Nat):Int)),?_,⟨k+1,rfl,hlt,hg,hw,fun i hi j=> ?_⟩,by simp only[Int.toNat_natCast];omega⟩
     ·unfold b7
      dsimp only
      rw[if_pos (by simp;omega),hh,hb,c5]
      rfl
     ·dsimp only
      rw[hm i hi j]
      by_cases e:i=k
      ·subst e;simp[hb]
      ·simp only[show decide (i<k+1)=decide (i<k) by simp;omega]
    | true =>
     have ho:=xD (g.getD k z4) to
     refine .inl ⟨(g.set k (m9 (g.getD k z4) to),((k+1:Nat):Int)),?_,⟨k+1,rfl,hlt,by simp[hg],fun x hx=> ?_,fun i hi j=> ?_⟩,by simp only[Int.toNat_natCast];omega⟩
     ·unfold b7
      dsimp only
      rw[if_pos (by simp;omega),hh,hb,c5]
      simp only[Option.bind_some,if_true,Int.toNat_natCast,if_pos c1,if_pos c2]
      rw[ho]
      rfl
     ·rcases List.mem_or_eq_of_mem_set hx with h | rfl
      ·exact hw x h
      ·exact(qH hw k).or h2
     ·dsimp only
      by_cases e:i=k
      ·subst e
       have:(g.set i (m9 (g.getD i z4) to)).getD i z4=m9 (g.getD i z4) to:=by
        simp[List.getD_eq_getElem?_getD,c2]
       rw[this,vK (qH hw i) h2,hm i hi j]
       simp[hb]
      ·have:(g.set k (m9 (g.getD k z4) to)).getD i z4=g.getD i z4:=by
        simp only[List.getD_eq_getElem?_getD,List.getElem?_set_ne (Ne.symm e)]
       rw[this,hm i hi j]
       simp only[show decide (i<k+1)=decide (i<k) by simp;omega]
   ·refine .inr ⟨g,?_,hg,hw,fun i hi j=> ?_⟩
    ·unfold b7
     dsimp only
     rw[if_neg (by simp;omega)]
    ·rw[hm i hi j]
     simp[show i<k by omega]
  ·exact⟨0,rfl,Nat.zero_le _,rfl,hf,fun i hi j=>by simp⟩
 obtain⟨r,q1,q2⟩:=key
 exact⟨r,by unfold c9;rw[q1];rfl,q2⟩
section
variable{s0 s1 s2:List Int}{f0 f1 f2 f3:List S4}{n m:Nat}{nu nu1 nu2:Bool}{fi la fi1 la1 fi2 la2:S4}{A A1 A2:Wd→Prop}
theorem aAX{f:List S4}{a p q:Nat}:¬FG f a a p q:=fun h=>by have:=h.1;omega
theorem Mk.eps(h1:f0.length=s0.length)(h2:∀x∈f0,W4 x):Mk s0 f0 0 s0 f0 true z4 z4 (fun w=>w=[]) :=
 ⟨rfl,⟨[],by simp⟩,h1,h2,fun _ _=>rfl,fun h=>h,W4.z,W4.z,fun lab _=>Gl.eps.congr (fun p q=>iff_of_false aAX id) (by simp) (fun p=>by simp[I4]) (fun p=>by simp[I4]) (fun w=>Iff.rfl)⟩
theorem Mk.none(h1:f0.length=s0.length)(h2:∀x∈f0,W4 x):Mk s0 f0 0 s0 f0 false z4 z4 (fun _=>False) :=
 ⟨rfl,⟨[],by simp⟩,h1,h2,fun _ _=>rfl,fun h=>h,W4.z,W4.z,fun lab _=>Gl.none.congr (fun p q=>iff_of_false aAX id) (by simp) (fun p=>by simp[I4]) (fun p=>by simp[I4]) (fun w=>Iff.rfl)⟩
theorem bN{α:Type}{l r:List α}{i:Nat}{d:α}(h:i<l.length):(l++r).getD i d=l.getD i d:=by
 simp only[List.getD_eq_getElem?_getD,List.getElem?_append_left h]
theorem Mk.set(h1:f0.length=s0.length)(h2:∀x∈f0,W4 x)(hl:s0.length<200){x:Int}(hx:U32 x):Mk s0 f0 1 (s0++[x]) (f0++[z4]) false (ad4 s0.length z4) (ad4 s0.length z4) (fun w=>∃c,w=[c]∧P5 x c):=by
 have hme:∀p,me (ad4 s0.length z4) p=true↔p=s0.length:=fun p=>by
  rw[aFq W4.z (by omega),I4];simp;omega
 refine⟨by simp,⟨[x],rfl⟩,by simp[h1],fun y hy=> ?_,fun i hi=>bN (by omega),fun h y hy=>(List.mem_append.1 hy).elim (h y) (fun e=>by simp only[List.mem_singleton]at e;exact e ▸ hx),W4.z.ad _,W4.z.ad _,fun lab hlab=> ?_⟩
 ·rcases List.mem_append.1 hy with h | h
  ·exact h2 y h
  ·simp only[List.mem_singleton]at h;subst h;exact W4.z
 ·have e:(s0++[x]).length=s0.length+1:=by simp
  rw[e]at hlab ⊢
  have hx:(s0++[x]).getD s0.length 0=x:=by simp[List.getD_eq_getElem?_getD]
  refine(Gl.set (s:=x) (lab:=lab) (a:=s0.length) fun c=> ?_).congr (fun p q=> ?_) (by simp) hme hme (fun w=>Iff.rfl)
  ·rw[hlab _ c (Nat.le_refl _) (by omega),hx]
  ·refine iff_of_false (fun h=> ?_) id
   obtain⟨h3,h4⟩:=h
   have:p=f0.length:=by omega
   subst this
   have hz:(f0++[z4]).getD f0.length z4=z4:=by simp[List.getD_eq_getElem?_getD]
   rw[hz,I4]at h4
   cases h4
theorem Mk.le(h:Mk s0 f0 n s1 f1 nu fi la A):s0.length≤s1.length:=by rw[h.len];omega
theorem Mk.lab(h:Mk s0 f0 n s1 f1 nu fi la A){p:Nat}(hp:p<s0.length):s1.getD p 0=s0.getD p 0:=by
 obtain⟨l,rfl⟩:=h.pre
 exact bN hp
theorem Mk.trans_pre(h:Mk s0 f0 n s1 f1 nu1 fi1 la1 A1)(k:Mk s1 f1 m s2 f2 nu2 fi2 la2 A2):∃l,s2=s0++l:=by
 obtain⟨l,rfl⟩:=h.pre
 obtain⟨l',rfl⟩:=k.pre
 exact⟨l++l',by simp⟩
theorem Mk.seq(h:Mk s0 f0 n s1 f1 nu1 fi1 la1 A1)(k:Mk s1 f1 m s2 f2 nu2 fi2 la2 A2)(hk:LK f2 la1 fi2 f3):
  Mk s0 f0 (n+m) s2 f3 (nu1 && nu2) (if nu1=true then m9 fi1 fi2 else fi1) (if nu2=true then m9 la2 la1 else la2) (Cat A1 A2):=by
 have g1:=h.gl (fun p c=>P5 (s1.getD p 0) c) (fun _ _ _ _=>Iff.rfl)
 have hle1:=h.le
 have hle2:=k.le
 have hfl:=k.fl
 have hfl1:=h.fl
 refine⟨by rw[k.len,h.len];omega,h.trans_pre k,by rw[hk.fl,k.fl],hk.fw,fun i hi=> ?_,fun hh=>k.su (h.su hh),?_,?_,fun lab hlab=> ?_⟩
 ·have hla:me la1 i=false:=by
   cases e:me la1 i with
   | false=>rfl
   | true=>have:=g1.la i e;omega
  rw[hk.same k.fw (by omega) hla,k.fo i (by omega),h.fo i hi]
 ·split
  ·exact h.w1.or k.w1
  ·exact h.w1
 ·split
  ·exact k.w2.or h.w2
  ·exact k.w2
 ·have G1:=h.gl lab fun p c hp1 hp2=>by rw[hlab p c hp1 (by omega),k.lab hp2]
  have G2:=k.gl lab fun p c hp1 hp2=>hlab p c (by omega) hp2
  refine(G1.seq G2 hle1 hle2).congr (fun p q=> ?_) (by simp) (fun p=> ?_) (fun p=> ?_) (fun w=>Iff.rfl)
  ·constructor
   ·rintro⟨⟨h1,h2⟩,h3⟩
    rw[hk.me p (by omega) q,Bool.or_eq_true,Bool.and_eq_true]at h3
    rcases h3 with h3 | h3
    ·rcases Nat.lt_or_ge p s1.length with hp | hp
     ·rw[k.fo p hp]at h3
      exact .inl ⟨⟨h1,hp⟩,h3⟩
     ·exact .inr (.inl ⟨⟨hp,h2⟩,h3⟩)
    ·exact .inr (.inr h3)
   ·rintro(⟨⟨h1,h2⟩,h3⟩ | ⟨⟨h1,h2⟩,h3⟩ | ⟨h3,h4⟩)
    ·refine⟨⟨h1,by omega⟩,?_⟩
     rw[hk.me p (by omega) q,k.fo p h2,h3];rfl
    ·refine⟨⟨by omega,h2⟩,?_⟩
     rw[hk.me p (by omega) q,h3];rfl
    ·have:=g1.la p h3
     refine⟨⟨this.1,by omega⟩,?_⟩
     rw[hk.me p (by omega) q,h3,h4];simp
  ·cases nu1 with
   | true=>rw[if_pos rfl,vK h.w1 k.w1];simp
   | false=>rw[if_neg (by simp)];simp
  ·cases nu2 with
   | true=>rw[if_pos rfl,vK k.w2 h.w2];simp
   | false=>rw[if_neg (by simp)];simp
theorem Mk.alt(h:Mk s0 f0 n s1 f1 nu1 fi1 la1 A1)(k:Mk s1 f1 m s2 f2 nu2 fi2 la2 A2):
  Mk s0 f0 (n+m) s2 f2 (nu1 || nu2) (m9 fi1 fi2) (m9 la1 la2) (fun w=>A1 w∨A2 w):=by
 have hle1:=h.le
 have hle2:=k.le
 refine⟨by rw[k.len,h.len];omega,h.trans_pre k,k.fl,k.fw,fun i hi=>by rw[k.fo i (by omega),h.fo i hi],fun hh=>k.su (h.su hh),h.w1.or k.w1,h.w2.or k.w2,fun lab hlab=> ?_⟩
 have G1:=h.gl lab fun p c hp1 hp2=>by rw[hlab p c hp1 (by omega),k.lab hp2]
 have G2:=k.gl lab fun p c hp1 hp2=>hlab p c (by omega) hp2
 refine(G1.alt G2 hle1 hle2).congr (fun p q=> ?_) (by simp) (fun p=>by rw[vK h.w1 k.w1];simp) (fun p=>by rw[vK h.w2 k.w2];simp) (fun w=>Iff.rfl)
 constructor
 ·rintro⟨⟨h1,h2⟩,h3⟩
  rcases Nat.lt_or_ge p s1.length with hp | hp
  ·rw[k.fo p hp]at h3
   exact .inl ⟨⟨h1,hp⟩,h3⟩
  ·exact .inr ⟨⟨hp,h2⟩,h3⟩
 ·rintro(⟨⟨h1,h2⟩,h3⟩ | ⟨⟨h1,h2⟩,h3⟩)
  ·exact⟨⟨h1,by omega⟩,by rw[k.fo p h2,h3]⟩
  ·exact⟨⟨by omega,h2⟩,h3⟩
theorem Mk.loop(h:Mk s0 f0 n s1 f1 nu1 fi1 la1 A1)(hk:LK f1 la1 fi1 f3){nu:Bool}{B:Wd→Prop}
  (hG:∀lab F,Gl lab F (nu1=true) (fun p=>me fi1 p=true) (fun p=>me la1 p=true) s0.length s1.length A1→Gl lab (fun p q=>F p q∨me la1 p=true∧me fi1 q=true) (nu=true) (fun p=>me fi1 p=true) (fun p=>me la1 p=true) s0.length s1.length B) :
  Mk s0 f0 n s1 f3 nu fi1 la1 B:=by
 have g1:=h.gl (fun p c=>P5 (s1.getD p 0) c) (fun _ _ _ _=>Iff.rfl)
 have hle1:=h.le
 have hfl1:=h.fl
 refine⟨h.len,h.pre,by rw[hk.fl,h.fl],hk.fw,fun i hi=> ?_,h.su,h.w1,h.w2,fun lab hlab=> ?_⟩
 ·have hla:me la1 i=false:=by
   cases e:me la1 i with
   | false=>rfl
   | true=>have:=g1.la i e;omega
  rw[hk.same h.fw (by omega) hla,h.fo i hi]
 ·refine(hG lab _ (h.gl lab hlab)).congr (fun p q=> ?_) Iff.rfl (fun p=>Iff.rfl) (fun p=>Iff.rfl) (fun w=>Iff.rfl)
  constructor
  ·rintro⟨⟨h1,h2⟩,h3⟩
   rw[hk.me p (by omega) q,Bool.or_eq_true,Bool.and_eq_true]at h3
   exact h3.imp (fun h3=>⟨⟨h1,h2⟩,h3⟩) id
  ·rintro(⟨⟨h1,h2⟩,h3⟩ | ⟨h3,h4⟩)
   ·exact⟨⟨h1,h2⟩,by rw[hk.me p (by omega) q,h3];rfl⟩
   ·have:=g1.la p h3
    exact⟨this,by rw[hk.me p (by omega) q,h3,h4];simp⟩
theorem Mk.opt(h:Mk s0 f0 n s1 f1 nu1 fi1 la1 A1):Mk s0 f0 n s1 f1 true fi1 la1 (fun w=>w=[]∨A1 w) :=
 ⟨h.len,h.pre,h.fl,h.fw,h.fo,h.su,h.w1,h.w2,fun lab hlab=>(h.gl lab hlab).opt.congr (fun _ _=>Iff.rfl) (by simp) (fun _=>Iff.rfl) (fun _=>Iff.rfl) (fun _=>Iff.rfl)⟩
theorem Mk.congr(h:Mk s0 f0 n s1 f1 nu1 fi1 la1 A1)(hA:∀w,A w↔A1 w):Mk s0 f0 n s1 f1 nu1 fi1 la1 A:=by
 obtain rfl:A=A1:=funext fun w=>propext (hA w)
 exact h
end
end Go.Proofs.YtacpjjgochokcaaDoor.T
namespace Go.Proofs.YtacpjjgochokcaaDoor.T
open Go Go.Tv Go.Proofs
abbrev aDs:=Bool×(Int×Int×Int×Int)×Int×Int×Int×Int
abbrev RM:=Int→Int→(List Tree)→Bool→(List Int)→(List (Int×Int×Int×Int))→Option ((Bool×(Int×Int×Int×Int)×Int×Int×Int×Int)×(List Int)×(List (Int×Int×Int×Int))×Bool)
def MOk(R:RM)(t:Tree):Prop:=∀s f,f.length=s.length→(∀x∈f,W4 x)→s.length+gF t≤200→∃nu fi la s' f',R t.op t.set t.kids false s f=some ((nu,fi,la),s',f',false)∧Mk s f (gF t) s' f' nu fi la (Lg t)
theorem uZ{ks:List Tree}{k:Nat}(h:k<ks.length):cR (ks.take (k+1))=cR (ks.take k)+gF (ks.getD k (Tree.node 0 0 [])):=by
 rw[eW (d:=Tree.node 0 0 []) h,gO];simp[cR]
theorem lB(ks:List Tree)(k:Nat):cR (ks.take k)≤cR ks:=by
 conv=>rhs;rw[←List.take_append_drop k ks,gO]
 omega
section
variable{R:RM}{s0:List Int}{f0:List S4}
theorem aHb{ks:List Tree}(hk:ks.length≤1000)(hR:∀k∈ks,MOk R k)(h1:f0.length=s0.length)(h2:∀x∈f0,W4 x)(hc:s0.length+cR ks≤200):
  ∃r,iter (dZ ks R) (s0,f0,false,true,0,0,0,0,0,0,0,0,0)=some r ∧
   ∃nu fi la s f,r=(nu,fi.1,fi.2.1,fi.2.2.1,fi.2.2.2,la.1,la.2.1,la.2.2.1,la.2.2.2,s,f,false)∧Mk s0 f0 (cR ks) s f nu fi la (K5 ks):=by
 refine cC (I:=fun q=>∃(k:Nat) (s:List Int) (f:List S4) (nu:Bool) (fi la:S4),q=(s,f,false,nu,fi.1,fi.2.1,fi.2.2.1,fi.2.2.2,la.1,la.2.1,la.2.2.1,la.2.2.2,(k:Int))∧k≤ks.length∧Mk s0 f0 (cR (ks.take k)) s f nu fi la (K5 (ks.take k)))
  (μ:=fun q=>ks.length - q.2.2.2.2.2.2.2.2.2.2.2.2.toNat) _ ?_ ?_
 ·rintro q ⟨k,s,f,nu,fi,la,rfl,hk',M⟩
  by_cases hlt:k<ks.length
  ·have c1:0≤(k:Int)∧(k:Int)<(ks.length:Int):=by omega
   have c5:IntKind.i64.wrap ((k:Int)+1)=((k+1:Nat):Int):=by rw[aR (by omega) (by omega)];omega
   have hct:=uZ hlt
   have hcl:=lB ks (k+1)
   have hlen:=M.len
   obtain⟨nu',fi',la',s',f',e1,M'⟩:=hR _ (dN (d:=Tree.node 0 0 []) hlt) s f M.fl M.fw (by omega)
   have hlen':=M'.len
   obtain⟨g,e2,hL⟩:=aBj (f:=f') (fr:=la) (to:=fi') (by rw[M'.fl];omega) M'.fw M.w2 M'.w1 false s'
   have MM:=M.seq M' hL
   refine .inl ⟨(s',g,false,nu && nu',(if nu=true then m9 fi fi' else fi).1,(if nu=true then m9 fi fi' else fi).2.1,(if nu=true then m9 fi fi' else fi).2.2.1,(if nu=true then m9 fi fi' else fi).2.2.2,
    (if nu'=true then m9 la' la else la').1,(if nu'=true then m9 la' la else la').2.1,(if nu'=true then m9 la' la else la').2.2.1,(if nu'=true then m9 la' la else la').2.2.2,((k+1:Nat):Int)),?_,⟨k+1,s',g,_,_,_,rfl,hlt,?_⟩,by simp only[Int.toNat_natCast];omega⟩
   ·unfold dZ
    dsimp only
    rw[if_pos (by simp;omega),if_pos c1,Int.toNat_natCast,e1,c5]
    simp only[Option.bind_some]
    rw[e2]
    have o1:=xD fi fi'
    have o2:=xD la' la
    cases nu <;> cases nu' <;> simp only[Option.bind_some,if_true,Bool.false_eq_true,if_false,o1,o2] <;> rfl
   ·rw[hct,eW (d:=Tree.node 0 0 []) hlt]
    exact MM.congr fun w=>aDf _ _ w
  ·refine .inr ⟨(nu,fi.1,fi.2.1,fi.2.2.1,fi.2.2.2,la.1,la.2.1,la.2.2.1,la.2.2.2,s,f,false),?_,nu,fi,la,s,f,rfl,?_⟩
   ·unfold dZ
    dsimp only
    rw[if_neg (by simp;omega)]
   ·rw[List.take_of_length_le (by omega)]at M
    exact M
 ·exact⟨0,s0,f0,true,z4,z4,rfl,Nat.zero_le _,(Mk.eps h1 h2).congr fun w=>by simp[K5]⟩
theorem aGJ{ks:List Tree}(hk:ks.length≤1000)(hR:∀k∈ks,MOk R k)(h1:f0.length=s0.length)(h2:∀x∈f0,W4 x)(hc:s0.length+cR ks≤200):
  ∃r,iter (dW ks R) (s0,f0,false,false,0,0,0,0,0,0,0,0,0)=some r ∧
   ∃nu fi la s f,r=(nu,fi.1,fi.2.1,fi.2.2.1,fi.2.2.2,la.1,la.2.1,la.2.2.1,la.2.2.2,s,f,false)∧Mk s0 f0 (cR ks) s f nu fi la (LgA ks):=by
 refine cC (I:=fun q=>∃(k:Nat) (s:List Int) (f:List S4) (nu:Bool) (fi la:S4),q=(s,f,false,nu,fi.1,fi.2.1,fi.2.2.1,fi.2.2.2,la.1,la.2.1,la.2.2.1,la.2.2.2,(k:Int))∧k≤ks.length∧Mk s0 f0 (cR (ks.take k)) s f nu fi la (LgA (ks.take k)))
  (μ:=fun q=>ks.length - q.2.2.2.2.2.2.2.2.2.2.2.2.toNat) _ ?_ ?_
 ·rintro q ⟨k,s,f,nu,fi,la,rfl,hk',M⟩
  by_cases hlt:k<ks.length
  ·have c1:0≤(k:Int)∧(k:Int)<(ks.length:Int):=by omega
   have c5:IntKind.i64.wrap ((k:Int)+1)=((k+1:Nat):Int):=by rw[aR (by omega) (by omega)];omega
   have hct:=uZ hlt
   have hcl:=lB ks (k+1)
   have hlen:=M.len
   obtain⟨nu',fi',la',s',f',e1,M'⟩:=hR _ (dN (d:=Tree.node 0 0 []) hlt) s f M.fl M.fw (by omega)
   have MM:=M.alt M'
   refine .inl ⟨(s',f',false,nu || nu',(m9 fi fi').1,(m9 fi fi').2.1,(m9 fi fi').2.2.1,(m9 fi fi').2.2.2,
    (m9 la la').1,(m9 la la').2.1,(m9 la la').2.2.1,(m9 la la').2.2.2,((k+1:Nat):Int)),?_,⟨k+1,s',f',_,_,_,rfl,hlt,?_⟩,by simp only[Int.toNat_natCast];omega⟩
   ·unfold dW
    dsimp only
    rw[if_pos (by simp;omega),if_pos c1,Int.toNat_natCast,e1,c5]
    simp only[Option.bind_some]
    have o1:=xD fi fi'
    have o2:=xD la la'
    cases nu <;> simp only[Option.bind_some,if_true,Bool.false_eq_true,if_false,o1,o2] <;> rfl
   ·rw[hct,eW (d:=Tree.node 0 0 []) hlt]
    exact MM.congr fun w=>S5 _ _ w
  ·refine .inr ⟨(nu,fi.1,fi.2.1,fi.2.2.1,fi.2.2.2,la.1,la.2.1,la.2.2.1,la.2.2.2,s,f,false),?_,nu,fi,la,s,f,rfl,?_⟩
   ·unfold dW
    dsimp only
    rw[if_neg (by simp;omega)]
   ·rw[List.take_of_length_le (by omega)]at M
    exact M
 ·exact⟨0,s0,f0,false,z4,z4,rfl,Nat.zero_le _,(Mk.none h1 h2).congr fun w=>by simp[LgA]⟩
theorem aEa{ks:List Tree}(hR:∀k∈ks,MOk R k)(h1:f0.length=s0.length)(h2:∀x∈f0,W4 x)(hc:s0.length+rQ ks≤200):
  ∃nu fi la s f,(if(decide ((ks.length:Int) > (0:Int)))=true then(if 0≤(0:Int)∧(0:Int)<(ks.length:Int)then((R ((ks.getD ((0:Int).toNat) (Tree.node 0 0 [])).op) ((ks.getD ((0:Int).toNat) (Tree.node 0 0 [])).set) ((ks.getD ((0:Int).toNat) (Tree.node 0 0 [])).kids) false s0 f0).bind fun(r293,r294,r295,r296) =>
    some (r294,r295,r296,r293.1,r293.2.1.1,r293.2.1.2.1,r293.2.1.2.2.1,r293.2.1.2.2.2,r293.2.2.1,r293.2.2.2.1,r293.2.2.2.2.1,r293.2.2.2.2.2))else none)
   else some (s0,f0,false,false,(0:Int),(0:Int),(0:Int),(0:Int),(0:Int),(0:Int),(0:Int),(0:Int)))=some (s,f,false,nu,fi.1,fi.2.1,fi.2.2.1,fi.2.2.2,la.1,la.2.1,la.2.2.1,la.2.2.2)∧Mk s0 f0 (rQ ks) s f nu fi la (LgH ks):=by
 cases ks with
 | nil=>exact⟨false,z4,z4,s0,f0,rfl,(Mk.none h1 h2).congr fun w=>by simp[LgH]⟩
 | cons k ks =>
  have hc':s0.length+gF k≤200:=by simpa only [rQ]using hc
  obtain⟨nu,fi,la,s,f,e1,M⟩:=hR k (.head _) s0 f0 h1 h2 hc'
  refine⟨nu,fi,la,s,f,?_,?_⟩
  ·rw[if_pos (by simp),if_pos (by simp)]
   have e:(k::ks).getD (0:Int).toNat (Tree.node 0 0 [])=k:=rfl
   rw[e,e1]
   rfl
  ·have e:LgH (k::ks)=Lg k:=rfl
   have e':rQ (k::ks)=gF k:=by simp[rQ]
   rw[e,e']
   exact M
theorem aH2{o s:Int}{ks:List Tree}(hs:U32 s)(hk:ks.length≤1000)(hR:∀k∈ks,MOk R k)(h1:f0.length=s0.length)(h2:∀x∈f0,W4 x)(hc:s0.length+gF (.node o s ks)≤200):
  ∃nu fi la s' f',eH R o s ks false s0 f0=some ((nu,fi,la),s',f',false)∧Mk s0 f0 (gF (.node o s ks)) s' f' nu fi la (Lg (.node o s ks)):=by
 unfold eH
 by_cases e1:o=1
 ·subst e1
  have ec:gF (.node 1 s ks)=1:=by simp[gF]
  have eL:Lg (.node 1 s ks)=fun w=>∃c,w=[c]∧P5 s c:=funext fun w=>by simp[Lg]
  rw[ec]at hc ⊢
  rw[eL]
  refine⟨false,ad4 s0.length z4,ad4 s0.length z4,s0++[s],f0++[z4],?_,Mk.set h1 h2 (by omega) hs⟩
  rw[if_pos (show((1:Int) == 1)=true from rfl),if_neg (by simp;omega),aEp (by omega)]
  simp only[Option.bind_some]
  rw[if_pos (by simp;omega),if_pos (by simp;omega)]
 rw[if_neg (by simpa using e1)]
 by_cases e2:o=2
 ·subst e2
  have ec:gF (.node 2 s ks)=cR ks:=by simp[gF]
  have eL:Lg (.node 2 s ks)=K5 ks:=funext fun w=>by simp[Lg]
  rw[ec]at hc ⊢
  rw[eL]
  obtain⟨r,q1,nu,fi,la,s',f',rfl,M⟩:=aHb hk hR h1 h2 hc
  refine⟨nu,fi,la,s',f',?_,M⟩
  rw[if_pos (show((2:Int) == 2)=true from rfl),q1]
  rfl
 rw[if_neg (by simpa using e2)]
 by_cases e3:o=3
 ·subst e3
  have ec:gF (.node 3 s ks)=cR ks:=by simp[gF]
  have eL:Lg (.node 3 s ks)=LgA ks:=funext fun w=>by simp[Lg]
  rw[ec]at hc ⊢
  rw[eL]
  obtain⟨r,q1,nu,fi,la,s',f',rfl,M⟩:=aGJ hk hR h1 h2 hc
  refine⟨nu,fi,la,s',f',?_,M⟩
  rw[if_pos (show((3:Int) == 3)=true from rfl),q1]
  rfl
 rw[if_neg (by simpa using e3)]
 by_cases e456:o=4∨o=5∨o=6
 ·have ec:gF (.node o s ks)=rQ ks:=by rcases e456 with rfl | rfl | rfl <;> simp[gF]
  rw[ec]at hc ⊢
  obtain⟨nu,fi,la,s',f',q1,M⟩:=aEa hR h1 h2 hc
  have hlen:=M.len
  obtain⟨g,q2,hL⟩:=aBj (f:=f') (fr:=la) (to:=fi) (by rw[M.fl];omega) M.fw M.w2 M.w1 false s'
  rcases e456 with rfl | rfl | rfl
  ·refine⟨true,fi,la,s',g,?_,?_⟩
   ·rw[if_pos (show((4:Int) == 4)=true from rfl)]
    simp only[Option.bind_some]
    rw[if_pos (show((4:Int) == 4)=true from rfl),q1]
    simp only[Option.bind_some]
    rw[if_pos (show((4:Int) != 6)=true from rfl),q2]
    cases nu <;> rfl
   ·have eL:Lg (.node 4 s ks)=Star (LgH ks):=funext fun w=>by simp[Lg]
    rw[eL]
    exact M.loop hL fun lab F G=>G.star.congr (fun _ _=>Iff.rfl) (by simp) (fun _=>Iff.rfl) (fun _=>Iff.rfl) (fun _=>Iff.rfl)
  ·refine⟨nu,fi,la,s',g,?_,?_⟩
   ·rw[if_neg (show ¬((5:Int) == 4)=true from by decide),if_pos (show((5:Int) == 5)=true from rfl)]
    simp only[Option.bind_some]
    rw[if_pos (show((5:Int) == 5)=true from rfl),q1]
    simp only[Option.bind_some]
    rw[if_pos (show((5:Int) != 6)=true from rfl),q2]
    cases nu <;> rfl
   ·have eL:Lg (.node 5 s ks)=Plus (LgH ks):=funext fun w=>by simp[Lg]
    rw[eL]
    exact M.loop hL fun lab F G=>G.plus
  ·refine⟨true,fi,la,s',f',?_,?_⟩
   ·rw[if_neg (show ¬((6:Int) == 4)=true from by decide),if_neg (show ¬((6:Int) == 5)=true from by decide)]
    simp only[Option.bind_some]
    rw[if_pos (show((6:Int) == 6)=true from rfl),q1]
    simp only[Option.bind_some]
    rw[if_neg (show ¬((6:Int) != 6)=true from by decide)]
    cases nu <;> rfl
   ·have eL:Lg (.node 6 s ks)=fun w=>w=[]∨LgH ks w:=funext fun w=>by simp[Lg]
    rw[eL]
    exact M.opt
 ·have e4:¬o=4:=fun h=>e456 (.inl h)
  have e5:¬o=5:=fun h=>e456 (.inr (.inl h))
  have e6:¬o=6:=fun h=>e456 (.inr (.inr h))
  have q4:(o == (4:Int))=false:=by simpa using e4
  have q5:(o == (5:Int))=false:=by simpa using e5
  have q6:(o == (6:Int))=false:=by simpa using e6
  have ec:gF (.node o s ks)=0:=by simp[gF,e1,e2,e3,e4,e5,e6]
  have eL:Lg (.node o s ks)=fun w=>w=[]:=funext fun w=>by simp[Lg,e1,e2,e3,e4,e5,e6]
  rw[ec,eL]
  refine⟨true,z4,z4,s0,f0,?_,Mk.eps h1 h2⟩
  simp only[q4,q5,q6,Bool.false_eq_true,if_false,Option.bind_some]
end
theorem aFr:∀(d:Nat) (t:Tree),Tok d t→∀f,d≤f→MOk (dA f) t
 | 0,_,h,_,_=>h.elim
 | d+1,.node o s ks,h,0,hf=>absurd hf (by omega)
 | d+1,.node o s ks,h,f+1,hf=>fun _ _ h1 h2 hc=>aH2 h.1 h.2.1 (fun k hk=>aFr d k (h.2.2 k hk) f (by omega)) h1 h2 hc
end Go.Proofs.YtacpjjgochokcaaDoor.T
