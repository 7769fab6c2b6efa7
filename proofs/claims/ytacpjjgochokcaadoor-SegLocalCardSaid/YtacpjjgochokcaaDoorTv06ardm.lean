/- The program's maker, over all expressions. -/
import Derived.Test.YtacpjjgochokcaaDoorTv06arbm
namespace Go.Proofs.YtacpjjgochokcaaDoor.T
open Go Go.Tv Go.Proofs
abbrev MS:=List Int×List S4×List aDs
noncomputable def mkStep (o:Option MS) (t:Tree):Option MS :=
 o.bind fun x=>(dA 1000 t.op t.set t.kids false x.1 x.2.1).bind fun r=>some (r.2.1,r.2.2.1,x.2.2++[r.1])
noncomputable def mkL (l:List Tree):Option MS:=l.foldl mkStep (some ([],[],[]))
abbrev p0:aDs:=(false,z4,z4)
def pos(l:List Tree)(i:Nat):Nat:=cR (l.take i)
structure PI(l:List Tree)(k:Nat)(x:MS):Prop where
 sl:x.1.length=pos l k
 fl:x.2.1.length=pos l k
 fw:∀y∈x.2.1,W4 y
 su:∀y∈x.1,U32 y
 pl:x.2.2.length=k
 pw:∀i,i<k→W4 (x.2.2.getD i p0).2.1∧W4 (x.2.2.getD i p0).2.2
 gl:∀i,i<k→∀lab:Nat→Int→Prop,(∀p c,pos l i≤p→p<pos l (i+1)→(lab p c↔P5 (x.1.getD p 0) c)) →
  Gl lab (FG x.2.1 (pos l i) (pos l (i+1))) ((x.2.2.getD i p0).1=true) (fun p=>me (x.2.2.getD i p0).2.1 p=true) (fun p=>me (x.2.2.getD i p0).2.2 p=true) (pos l i) (pos l (i+1)) (Lg (l.getD i (.node 0 0 [])))
theorem R8{l:List Tree}{i:Nat}(h:i<l.length):pos l (i+1)=pos l i+gF (l.getD i (.node 0 0 [])):=uZ h
theorem p7(l:List Tree){i j:Nat}(h:i≤j):pos l i≤pos l j:=by
 unfold pos
 have:l.take i=(l.take j).take i:=by rw[List.take_take,Nat.min_eq_left h]
 rw[this]
 exact lB _ _
theorem aCX(l:List Tree)(i:Nat):pos l i≤cR l:=lB l i
theorem aCf{l:List Tree}{k:Nat}(h:k<l.length):mkL (l.take (k+1))=mkStep (mkL (l.take k)) (l.getD k (.node 0 0 [])):=by
 unfold mkL
 rw[eW (d:=Tree.node 0 0 []) h,List.foldl_append]
 rfl
def Fit(l:List Tree):Prop:=l.length≤24∧(∀t∈l,Tok 1000 t)∧cR l≤200
structure Ext(x y:MS):Prop where
 s:∃r,y.1=x.1++r
 f:∀i,i<x.1.length→y.2.1.getD i z4=x.2.1.getD i z4
 p:∃r,y.2.2=x.2.2++r
theorem aE2{l:List Tree}(hl:Fit l){k:Nat}(hk:k<l.length){x:MS}(h:PI l k x):∃nu fi la s f,dA 1000 (l.getD k (.node 0 0 [])).op (l.getD k (.node 0 0 [])).set (l.getD k (.node 0 0 [])).kids false x.1 x.2.1=some ((nu,fi,la),s,f,false) ∧
  PI l (k+1) (s,f,x.2.2++[(nu,fi,la)])∧Ext x (s,f,x.2.2++[(nu,fi,la)]):=by
 have hps:=R8 hk
 have hpl:=aCX l (k+1)
 have hc:=hl.2.2
 have hsl:=h.sl
 obtain⟨nu,fi,la,s,f,e,M⟩:=aFr 1000 _ (hl.2.1 _ (dN (d:=Tree.node 0 0 []) hk)) 1000 (Nat.le_refl _) x.1 x.2.1 (by rw[h.fl,h.sl]) h.fw (by omega)
 have hlen:=M.len
 have hfl:=M.fl
 have hx3:=h.pl
 refine⟨nu,fi,la,s,f,e,⟨by dsimp only;omega,by dsimp only;omega,M.fw,M.su h.su,by simp[h.pl],fun i hi=> ?_,fun i hi lab hlab=> ?_⟩,⟨M.pre,M.fo,⟨_,rfl⟩⟩⟩
 ·dsimp only
  by_cases e2:i=k
  ·have:(x.2.2++[(nu,fi,la)]).getD i p0=(nu,fi,la):=by rw[e2,←hx3];simp[List.getD_eq_getElem?_getD]
   rw[this]
   exact⟨M.w1,M.w2⟩
  ·rw[bN (by omega)]
   exact h.pw i (by omega)
 ·dsimp only at hlab ⊢
  by_cases e2:i=k
  ·have:(x.2.2++[(nu,fi,la)]).getD i p0=(nu,fi,la):=by rw[e2,←hx3];simp[List.getD_eq_getElem?_getD]
   rw[this]
   subst e2
   have ee:pos l (i+1)=s.length:=by omega
   rw[ee]at hlab ⊢
   rw[←hsl]at hlab ⊢
   exact M.gl lab hlab
  ·rw[bN (by omega)]
   have hm:=p7 l (show i+1≤k by omega)
   refine(h.gl i (by omega) lab fun p c hp1 hp2=> ?_).congr (fun p q=> ?_) Iff.rfl (fun _=>Iff.rfl) (fun _=>Iff.rfl) (fun _=>Iff.rfl)
   ·rw[hlab p c hp1 hp2,M.lab (by omega)]
   ·constructor
    ·rintro⟨h1,h2⟩;exact⟨h1,by rw[←M.fo p (by omega)];exact h2⟩
    ·rintro⟨h1,h2⟩;exact⟨h1,by rw[M.fo p (by omega)];exact h2⟩
theorem PI.zero(l:List Tree):PI l 0 ([],[],[]) :=
 ⟨by simp[pos,cR],by simp[pos,cR],fun y hy=>by simp at hy,fun y hy=>by simp at hy,rfl,fun i h=>absurd h (by omega),fun i h=>absurd h (by omega)⟩
theorem Ext.refl(x:MS):Ext x x:=⟨⟨[],by simp⟩,fun _ _=>rfl,⟨[],by simp⟩⟩
theorem Ext.trans{x y z:MS}(h:Ext x y)(k:Ext y z):Ext x z:=by
 obtain⟨⟨r,h1⟩,h2,⟨q,h3⟩⟩:=h
 obtain⟨⟨r',k1⟩,k2,⟨q',k3⟩⟩:=k
 exact⟨⟨r++r',by rw[k1,h1];simp⟩,fun i hi=>by rw[k2 i (by rw[h1];simp;omega),h2 i hi],⟨q++q',by rw[k3,h3];simp⟩⟩
theorem aED{l:List Tree}(hl:Fit l):∃x,mkL l=some x∧PI l l.length x∧iter (hJ l) ([],[],false,[],0)=some (x.1,x.2.1,false,x.2.2):=by
 have key:∃r,iter (hJ l) ([],[],false,[],0)=some r∧∃x,mkL l=some x∧PI l l.length x∧r=(x.1,x.2.1,false,x.2.2):=by
  refine cC (I:=fun q=>∃(k:Nat) (x:MS),q=(x.1,x.2.1,false,x.2.2,(k:Int))∧k≤l.length∧mkL (l.take k)=some x∧PI l k x) (μ:=fun q=>l.length - q.2.2.2.2.toNat) _ ?_ ⟨0,([],[],[]),rfl,Nat.zero_le _,by simp[mkL],PI.zero l⟩
  rintro q ⟨k,x,rfl,hk,hm,hP⟩
  by_cases hlt:k<l.length
  ·have h24:=hl.1
   have hpl:=hP.pl
   have c1:0≤(k:Int)∧(k:Int)<(l.length:Int):=by omega
   have c5:IntKind.i64.wrap ((k:Int)+1)=((k+1:Nat):Int):=by rw[aR (by omega) (by omega)];omega
   obtain⟨nu,fi,la,s,f,e,h3,_⟩:=aE2 hl hlt hP
   refine .inl ⟨(s,f,false,x.2.2++[(nu,fi,la)],((k+1:Nat):Int)),?_,⟨k+1,(s,f,x.2.2++[(nu,fi,la)]),rfl,hlt,?_,h3⟩,by simp only[Int.toNat_natCast];omega⟩
   ·unfold hJ
    dsimp only
    rw[if_pos (by simp;omega),if_pos c1,Int.toNat_natCast,e,c5]
    simp only[Option.bind_some]
    rw[if_pos (by simp;omega)]
   ·rw[aCf hlt,hm]
    simp only[mkStep,Option.bind_some,e]
  ·have ek:k=l.length:=by omega
   subst ek
   rw[List.take_length]at hm
   refine .inr ⟨_,?_,x,hm,hP,rfl⟩
   unfold hJ
   dsimp only
   rw[if_neg (by simp)]
 obtain⟨r,h1,x,h2,h3,rfl⟩:=key
 exact⟨x,h2,h3,h1⟩
end Go.Proofs.YtacpjjgochokcaaDoor.T
namespace Go.Proofs.YtacpjjgochokcaaDoor.T
open Go Go.Tv Go.Proofs
def Fst(ps:List aDs)(p:Nat):Prop:=∃i,i<ps.length∧me (ps.getD i p0).2.1 p=true
def May(f:List S4)(A:Nat→Prop)(s:S4)(q:Nat):Prop:=A q∨∃p,p<f.length∧me s p=true∧me (f.getD p z4) q=true
def Bit(ps:List aDs)(s:S4)(r:Nat):Prop:=r<ps.length∧((ps.getD r p0).1=true∨∃p,me s p=true∧me (ps.getD r p0).2.2 p=true)
def Nxt(ss:List Int)(m:S4)(c:Nat)(t:S4):Prop:=W4 t∧∀p,me t p=true↔p<ss.length∧me m p=true∧bt (ss.getD p 0) c=true
theorem iO{k:Nat}(h:k<1000000):IntKind.i64.wrap ((k:Int)+1)=((k+1:Nat):Int):=by rw[aR (by omega) (by omega)];omega
section
variable{ps:List aDs}{f:List S4}{ss:List Int}
theorem aEA(hl:ps.length≤24)(hw:∀i,i<ps.length→W4 (ps.getD i p0).2.1):∃m:S4,iter (gU ps) (0,0,0,0,0)=some (m.1,m.2.1,m.2.2.1,m.2.2.2)∧W4 m∧∀p,me m p=true↔Fst ps p:=by
 have key:∃r,iter (gU ps) (0,0,0,0,0)=some r∧∃m:S4,r=(m.1,m.2.1,m.2.2.1,m.2.2.2)∧W4 m∧∀p,me m p=true↔Fst ps p:=by
  refine cC (I:=fun q=>∃(k:Nat) (m:S4),q=(m.1,m.2.1,m.2.2.1,m.2.2.2,(k:Int))∧k≤ps.length∧W4 m∧∀p,me m p=true↔∃i,i<k∧me (ps.getD i p0).2.1 p=true) (μ:=fun q=>ps.length - q.2.2.2.2.toNat) _ ?_ ?_
  ·rintro q ⟨k,m,rfl,hk,hm,hp⟩
   by_cases hlt:k<ps.length
   ·have c1:0≤(k:Int)∧(k:Int)<(ps.length:Int):=by omega
    have hor:=xD m (ps.getD k p0).2.1
    refine .inl ⟨((m9 m (ps.getD k p0).2.1).1,(m9 m (ps.getD k p0).2.1).2.1,(m9 m (ps.getD k p0).2.1).2.2.1,(m9 m (ps.getD k p0).2.1).2.2.2,((k+1:Nat):Int)),?_,⟨k+1,m9 m (ps.getD k p0).2.1,rfl,hlt,hm.or (hw k hlt),fun p=> ?_⟩,by simp only[Int.toNat_natCast];omega⟩
    ·unfold gU
     dsimp only
     rw[if_pos (by simp;omega),if_pos c1,Int.toNat_natCast,if_pos hlt,iO (by omega),hor]
     rfl
    ·rw[vK hm (hw k hlt),Bool.or_eq_true,hp]
     constructor
     ·rintro(⟨i,h1,h2⟩ | h)
      ·exact⟨i,by omega,h2⟩
      ·exact⟨k,by omega,h⟩
     ·rintro⟨i,h1,h2⟩
      by_cases e:i=k
      ·exact .inr (e ▸ h2)
      ·exact .inl ⟨i,by omega,h2⟩
   ·refine .inr ⟨_,?_,m,rfl,hm,fun p=> ?_⟩
    ·unfold gU
     dsimp only
     rw[if_neg (by simp;omega)]
    ·rw[hp]
     have:k=ps.length:=by omega
     rw[this];rfl
  ·exact⟨0,z4,rfl,Nat.zero_le _,W4.z,fun p=>by rw[I4];simp⟩
 obtain⟨r,h1,m,rfl,h2,h3⟩:=key
 exact⟨m,h1,h2,h3⟩
theorem aD1{st:List S4}{k:Nat}{m0:S4}(hl:f.length≤200)(hf:∀x∈f,W4 x)(hs:W4 (st.getD k z4))(h0:W4 m0):
  ∃m:S4,iter (fQ f st (k:Int)) (m0.1,m0.2.1,m0.2.2.1,m0.2.2.2,0)=some (m.1,m.2.1,m.2.2.1,m.2.2.2)∧W4 m∧∀q,me m q=true↔May f (fun q=>me m0 q=true) (st.getD k z4) q:=by
 have key:∃r,iter (fQ f st (k:Int)) (m0.1,m0.2.1,m0.2.2.1,m0.2.2.2,0)=some r∧∃m:S4,r=(m.1,m.2.1,m.2.2.1,m.2.2.2)∧W4 m∧∀q,me m q=true↔May f (fun q=>me m0 q=true) (st.getD k z4) q:=by
  refine cC (I:=fun q=>∃(j:Nat) (m:S4),q=(m.1,m.2.1,m.2.2.1,m.2.2.2,(j:Int))∧j≤f.length∧W4 m∧∀p,me m p=true↔me m0 p=true∨∃i,i<j∧me (st.getD k z4) i=true∧me (f.getD i z4) p=true) (μ:=fun q=>f.length - q.2.2.2.2.toNat) _ ?_ ?_
  ·rintro q ⟨j,m,rfl,hj,hm,hp⟩
   by_cases hlt:j<f.length
   ·have c1:0≤(j:Int)∧(j:Int)<(f.length:Int):=by omega
    have hh:=X2 hs (show j<256 by omega)
    have hor:=xD m (f.getD j z4)
    cases hb:me (st.getD k z4) j with
    | false =>
     refine .inl ⟨(m.1,m.2.1,m.2.2.1,m.2.2.2,((j+1:Nat):Int)),?_,⟨j+1,m,rfl,hlt,hm,fun p=> ?_⟩,by simp only[Int.toNat_natCast];omega⟩
     ·unfold fQ
      dsimp only
      rw[if_pos (by simp;omega),Int.toNat_natCast,hh,hb,iO (by omega)]
      rfl
     ·rw[hp]
      refine or_congr Iff.rfl ⟨fun⟨i,h1,h2⟩=>⟨i,by omega,h2⟩,fun⟨i,h1,h2⟩=>⟨i,?_,h2⟩⟩
      by_cases e:i=j
      ·rw[e,hb]at h2;cases h2.1
      ·omega
    | true =>
     refine .inl ⟨((m9 m (f.getD j z4)).1,(m9 m (f.getD j z4)).2.1,(m9 m (f.getD j z4)).2.2.1,(m9 m (f.getD j z4)).2.2.2,((j+1:Nat):Int)),?_,⟨j+1,m9 m (f.getD j z4),rfl,hlt,hm.or (qH hf j),fun p=> ?_⟩,by simp only[Int.toNat_natCast];omega⟩
     ·unfold fQ
      dsimp only
      rw[if_pos (by simp;omega),Int.toNat_natCast,hh,hb,iO (by omega)]
      simp only[Option.bind_some,if_true,Int.toNat_natCast,if_pos c1,if_pos hlt]
      rw[hor]
      rfl
     ·rw[vK hm (qH hf j),Bool.or_eq_true,hp]
      constructor
      ·rintro((h | ⟨i,h1,h2⟩) | h)
       ·exact .inl h
       ·exact .inr ⟨i,by omega,h2⟩
       ·exact .inr ⟨j,by omega,hb,h⟩
      ·rintro(h | ⟨i,h1,h2⟩)
       ·exact .inl (.inl h)
       ·by_cases e:i=j
        ·exact .inr (e ▸ h2.2)
        ·exact .inl (.inr ⟨i,by omega,h2⟩)
   ·refine .inr ⟨_,?_,m,rfl,hm,fun p=> ?_⟩
    ·unfold fQ
     dsimp only
     rw[if_neg (by simp;omega)]
    ·rw[hp]
     have:j=f.length:=by omega
     rw[this];rfl
  ·exact⟨0,m0,rfl,Nat.zero_le _,h0,fun p=>by simp⟩
 obtain⟨r,h1,m,rfl,h2,h3⟩:=key
 exact⟨m,h1,h2,h3⟩
theorem aEy{st:List S4}{k:Nat}(hl:ps.length≤24)(hw:∀i,i<ps.length→W4 (ps.getD i p0).2.2)(hs:W4 (st.getD k z4)):
  ∃b,iter (g7 ps st (k:Int)) (0,0)=some b∧U32 b∧∀r,bt b r=true↔Bit ps (st.getD k z4) r:=by
 refine cC (I:=fun q=>∃j:Nat,q.2=(j:Int)∧j≤ps.length∧U32 q.1∧∀r,bt q.1 r=true↔r<j∧((ps.getD r p0).1=true∨∃p,me (st.getD k z4) p=true∧me (ps.getD r p0).2.2 p=true)) (μ:=fun q=>ps.length - q.2.toNat) _ ?_ ?_
 ·rintro⟨b,i⟩ ⟨j,rfl,hj,hb,hr⟩
  dsimp only at hb hr
  by_cases hlt:j<ps.length
  ·have c1:0≤(j:Int)∧(j:Int)<(ps.length:Int):=by omega
   obtain⟨v,v1,v2⟩:=aDN hs (hw j hlt)
   obtain⟨u,hu1,hu2⟩:∃u:Bool,(if(ps.getD j p0).1=true then some true else(iF (st.getD k z4).1 (st.getD k z4).2.1 (st.getD k z4).2.2.1 (st.getD k z4).2.2.2 (ps.getD j p0).2.2.1 (ps.getD j p0).2.2.2.1 (ps.getD j p0).2.2.2.2.1 (ps.getD j p0).2.2.2.2.2).bind fun r517=>some r517)=some u∧(u=true↔((ps.getD j p0).1=true∨∃p,me (st.getD k z4) p=true∧me (ps.getD j p0).2.2 p=true)):=by
    cases h1:(ps.getD j p0).1 with
    | true=>exact⟨true,rfl,by simp⟩
    | false=>exact⟨v,by rw[if_neg (by simp),v1];rfl,by rw[v2];simp⟩
   have step:g7 ps st (k:Int) (b,(j:Int))=some (.inl ((if u=true then aG .or .u32 b (((2 ^ j:Nat):Int))else b),((j+1:Nat):Int))):=by
    unfold g7
    dsimp only
    rw[if_pos (by simp;omega),if_pos c1,Int.toNat_natCast,if_pos hlt,iO (by omega),Int.toNat_natCast,hu1]
    simp only[Option.bind_some]
    rw[aEr (by omega)]
    cases u
    ·rfl
    ·rw[if_pos rfl,if_pos (by omega),if_pos rfl];rfl
   refine .inl ⟨_,step,⟨j+1,rfl,hlt,?_,fun r=> ?_⟩,by simp only[Int.toNat_natCast];omega⟩
   ·dsimp only
    split
    ·exact hb.or (U32.pow (by omega))
    ·exact hb
   ·dsimp only
    cases hu:u with
    | true =>
     rw[if_pos rfl,aE1 hb (U32.pow (by omega)),Bool.or_eq_true,hr,X3,decide_eq_true_eq]
     constructor
     ·rintro(⟨h1,h2⟩ | rfl)
      ·exact⟨by omega,h2⟩
      ·exact⟨by omega,hu2.1 hu⟩
     ·rintro⟨h1,h2⟩
      by_cases e:j=r
      ·exact .inr e
      ·exact .inl ⟨by omega,h2⟩
    | false =>
     rw[if_neg (by simp),hr]
     constructor
     ·rintro⟨h1,h2⟩;exact⟨by omega,h2⟩
     ·rintro⟨h1,h2⟩
      by_cases e:r=j
      ·subst e
       rw[hu2.2 h2]at hu;cases hu
      ·exact⟨by omega,h2⟩
  ·refine .inr ⟨b,?_,hb,fun r=> ?_⟩
   ·unfold g7
    dsimp only
    rw[if_neg (by simp;omega)]
   ·rw[hr]
    have:j=ps.length:=by omega
    rw[this];rfl
 ·exact⟨0,rfl,Nat.zero_le _,⟨by decide,by decide⟩,fun r=>by rw[wZ];simp⟩
theorem aEt{m:S4}{c:Nat}(hc:c<32)(hl:ss.length≤200)(hu:∀y∈ss,U32 y)(hm:W4 m):
  ∃t:S4,iter (fN ss m.1 m.2.1 m.2.2.1 m.2.2.2 (c:Int)) (0,0,0,0,0)=some (t.1,t.2.1,t.2.2.1,t.2.2.2)∧Nxt ss m c t:=by
 have key:∃r,iter (fN ss m.1 m.2.1 m.2.2.1 m.2.2.2 (c:Int)) (0,0,0,0,0)=some r∧∃t:S4,r=(t.1,t.2.1,t.2.2.1,t.2.2.2)∧Nxt ss m c t:=by
  refine cC (I:=fun q=>∃(j:Nat) (t:S4),q=(t.1,t.2.1,t.2.2.1,t.2.2.2,(j:Int))∧j≤ss.length∧W4 t∧∀p,me t p=true↔p<j∧me m p=true∧bt (ss.getD p 0) c=true) (μ:=fun q=>ss.length - q.2.2.2.2.toNat) _ ?_ ?_
  ·rintro q ⟨j,t,rfl,hj,ht,hp⟩
   by_cases hlt:j<ss.length
   ·have c1:0≤(j:Int)∧(j:Int)<(ss.length:Int):=by omega
    have hh:=X2 hm (show j<256 by omega)
    have hbit:=M5 (hu _ (dN (d:=0) hlt)) hc
    have had:=aC0 ht (show j<256 by omega)
    obtain⟨v,hv1,hv2⟩:∃v:Bool,v=(me m j && bt (ss.getD j 0) c)∧True:=⟨_,rfl,trivial⟩
    have step:fN ss m.1 m.2.1 m.2.2.1 m.2.2.2 (c:Int) (t.1,t.2.1,t.2.2.1,t.2.2.2,(j:Int))=some (.inl ((if v=true then ad4 j t else t).1,(if v=true then ad4 j t else t).2.1,(if v=true then ad4 j t else t).2.2.1,(if v=true then ad4 j t else t).2.2.2,((j+1:Nat):Int))):=by
     unfold fN
     dsimp only
     rw[if_pos (by simp;omega),if_pos c1,Int.toNat_natCast,if_pos hlt,hh,iO (by omega),Int.toNat_natCast,hbit,had]
     simp only[Option.bind_some]
     rw[if_pos (show 0≤(c:Int) by omega)]
     subst hv1
     cases me m j <;> cases bt (ss.getD j 0) c <;> rfl
    refine .inl ⟨_,step,⟨j+1,_,rfl,hlt,?_,fun p=> ?_⟩,by simp only[Int.toNat_natCast];omega⟩
    ·split
     ·exact ht.ad j
     ·exact ht
    ·subst hv1
     cases hv:(me m j && bt (ss.getD j 0) c)with
     | true =>
      rw[if_pos rfl,aFq ht (by omega),Bool.or_eq_true,hp,decide_eq_true_eq]
      constructor
      ·rintro(⟨h1,h2⟩ | rfl)
       ·exact⟨by omega,h2⟩
       ·exact⟨by omega,by simpa using hv⟩
      ·rintro⟨h1,h2⟩
       by_cases e:j=p
       ·exact .inr e
       ·exact .inl ⟨by omega,h2⟩
     | false =>
      rw[if_neg (by simp),hp]
      constructor
      ·rintro⟨h1,h2⟩;exact⟨by omega,h2⟩
      ·rintro⟨h1,h2⟩
       by_cases e:p=j
       ·subst e
        rw[h2.1,h2.2]at hv;cases hv
       ·exact⟨by omega,h2⟩
   ·refine .inr ⟨_,?_,t,rfl,ht,fun p=> ?_⟩
    ·unfold fN
     dsimp only
     rw[if_neg (by simp;omega)]
    ·rw[hp]
     have:j=ss.length:=by omega
     rw[this]
  ·exact⟨0,z4,rfl,Nat.zero_le _,W4.z,fun p=>by rw[I4];simp⟩
 obtain⟨r,h1,t,rfl,h2⟩:=key
 exact⟨t,h1,h2⟩
end
end Go.Proofs.YtacpjjgochokcaaDoor.T
