/- The document's parser of rules says what the pieces say: words, names, things. -/
import Derived.Test.YtjfjigknkhgkdaaTv03zj
namespace Go.Proofs.Ytjfjigknkhgkdaa.T
open Go Go.Tv Go.Proofs
theorem zR{n:Nat}(h:n<256):fF (n:Int)=some (dS n):=by
 have h1:=List.all_eq_true.mp N1 n (List.mem_range.mpr h)
 simpa using h1
theorem M4{p1 p2 p3 p4 p5 p6 p7 p9 p10 p11 p12 p13}(names:List (List UInt8))(w:List UInt8)(hl:names.length≤20000):iR p1 p2 p3 p4 p5 p6 p7 names p9 p10 p11 p12 p13 w=some (if bZ names w<names.length then(bZ names w:Int)else -1):=by
 unfold iR
 have hle:bZ names w≤names.length:=j5 _ _
 have hb:∀k,k<bZ names w→cJ names w (k:Int)=some (.inl ((k+1:Nat):Int)):=fun k hk=>by
  have:=lJ (fun i=>names.getD i [] == w) names.length hk
  unfold cJ
  rw[if_pos (by simp;omega),if_pos ⟨by omega,by omega⟩,if_neg (by
   rw[Int.toNat_natCast,this];simp),aP (by omega) (by omega)]
  rfl
 by_cases hp:bZ names w<names.length
 ·have hat:=lI (fun i=>names.getD i [] == w) names.length hp
  have he:cJ names w ((bZ names w:Nat):Int)=some (.inr (.inr (bZ names w:Int))):=by
   unfold cJ
   rw[if_pos (by simp;omega),if_pos ⟨by omega,by omega⟩,if_pos (by
    rw[Int.toNat_natCast];exact hat)]
  have:=cC (fun k:Nat=>(k:Int)) (bZ names w) hb he
  rw[show iter (cJ names w) 0=_ from this,if_pos hp]
  rfl
 ·have hpe:bZ names w=names.length:=by omega
  have he:cJ names w ((bZ names w:Nat):Int)=some (.inr (.inl ())):=by
   unfold cJ
   rw[if_neg (by simp;omega)]
  have:=cC (fun k:Nat=>(k:Int)) (bZ names w) hb he
  rw[show iter (cJ names w) 0=_ from this,if_neg hp]
  rfl
theorem wM:∀(names:List (List UInt8)) (bits:List Int) (w:List UInt8),names.length=bits.length→look (names.zip bits) w=if bZ names w<names.length then some (bits.getD (bZ names w) 0)else none
 | [],_,w,_=>rfl
 | n::ns,[],w,h=>by cases h
 | n::ns,b::bs,w,h=>by
  have ih:=wM ns bs w (by simpa using h)
  have hp:bZ (n::ns) w=if(n == w)=true then 0 else bZ ns w+1:=by
   unfold bZ
   simp only[List.length_cons,gN]
   rfl
  have hlk:look ((n::ns).zip (b::bs)) w=if(n == w)=true then some b else look (ns.zip bs) w:=rfl
  rw[hlk,hp]
  by_cases hn:(n == w)=true
  ·rw[if_pos hn,if_pos hn,if_pos (by simp)]
   rfl
  ·rw[if_neg hn,if_neg hn,ih]
   by_cases hq:bZ ns w<ns.length
   ·rw[if_pos hq,if_pos (by simp only[List.length_cons];omega)];rfl
   ·rw[if_neg hq,if_neg (by simp only[List.length_cons];omega)]
structure Nm(names:List (List UInt8))(bits:List Int)(sets:iF):Prop where
 hz:sets=names.zip bits
 hlen:names.length=bits.length
theorem Nm.look{names bits sets}(h:Nm names bits sets)(w:List UInt8):look sets w=if bZ names w<names.length then some (bits.getD (bZ names w) 0)else none:=by
 rw[h.hz];exact wM names bits w h.hlen
theorem Nm.add{names bits sets}(h:Nm names bits sets)(w:List UInt8)(b:Int):Nm (names++[w]) (bits++[b]) (sets++[(w,b)]) :=
 ⟨by rw[h.hz,List.zip_append h.hlen];rfl,by simp[h.hlen]⟩
section
variable{t:List UInt8}(ht:t.length≤10000)
include ht
theorem M9{p:Int}{ts:Toks}(h:At t p ts)(d3 d4 d5 d6 o1 o2 o3 o4 o5):OkR (fun a=>a.2.2.2) (cZ t p d3 d4 d5 d6 0 0 o1 o2 o3 o4 o5) (gO ts) (fun a b=>a.1=b.1∧a.2.1=b.2.1∧At t a.2.2.1 b.2.2):=by
 unfold cZ
 have e00:((0:Int) == 0)=true:=rfl
 have n00:((0:Int) != 0)=false:=rfl
 have hh:=yO ht h d3 d4 d5 d6 o1 o2 o3 o4 o5
 cases ts with
 | bad n =>
  rw[hh]
  exact⟨([],n,n,20,n),rfl,rfl,by show(20:Int)≠0;decide⟩
 | eof n =>
  rw[hh,show jO (.eof n)=(((0:Nat):Int),(n:Int),0,0)from rfl]
  simp only[Option.bind_some,gO,e00,if_true]
  rw[zR (show 0<256 by decide)]
  exact⟨([],n,n,21,n),rfl,rfl,by show(21:Int)≠0;decide⟩
 | sg c n r =>
  obtain⟨h1,h2,h3,h4,h5⟩:=h.sg
  rw[hh,show jO (.sg c n r)=((c:Int),(n:Int),0,0)from rfl]
  simp only[Option.bind_some,gO,e00,if_true]
  rw[zR h3,h1]
  exact⟨([],n,n,21,n),rfl,rfl,by show(21:Int)≠0;decide⟩
 | wd w n r =>
  obtain⟨h1,h2,h3,h4,h5⟩:=h.wd
  rw[hh,show jO (.wd w n r)=((((w.headD 0).toNat:Nat):Int),(n:Int),0,0)from rfl]
  simp only[Option.bind_some,gO,e00,if_true]
  rw[S4,h1]
  simp only[Option.bind_some,Bool.not_true,Bool.false_eq_true,if_false,n00]
  rw[U1 ht _ n (Nat.le_refl _) (by omega),←h2]
  simp only[Option.bind_some]
  rw[if_pos ⟨by omega,by omega,by omega⟩]
  refine⟨_,rfl,rfl,?_,rfl,h4⟩
  simp only[Int.toNat_natCast]
  exact nF h2
theorem pH{c:Nat}(hc:dS c=false)(hc0:c≠0){p:Int}{ts:Toks}(h:At t p ts)(d3 d4 d5 d6 o1 o2 o3 o4 o5):OkR (fun a=>a.2.2) (aH (c:Int) t p d3 d4 d5 d6 0 0 o1 o2 o3 o4 o5) (bF c ts) (fun a b=>a.1=b.1∧At t a.2.1 b.2∧(a.1=false→a.2.1=b.2.pos)):=by
 unfold aH
 rw[yO ht h]
 simp only[Option.bind_some]
 have hq:=h.posn
 have n00:((0:Int) != 0)=false:=rfl
 cases ts with
 | bad n=>exact⟨(false,n,20,n),rfl,rfl,by show(20:Int)≠0;decide⟩
 | eof n =>
  simp only[jO,Toks.hd,Toks.pos,bF,n00,Option.bind_some,Bool.false_eq_true,if_false]
  rw[if_pos (by rw[bne_iff_ne];omega)]
  exact⟨_,rfl,rfl,rfl,hq,fun _=>rfl⟩
 | sg d n r =>
  obtain⟨h1,h2,h3,h4,h5⟩:=h.sg
  simp only[jO,Toks.hd,Toks.pos,bF,n00,Option.bind_some,Bool.false_eq_true,if_false]
  by_cases hd:d=c
  ·rw[if_neg (by simp[hd]),if_pos hd,aP (by omega) (by omega)]
   exact⟨_,rfl,rfl,rfl,h4,fun h=>by cases h⟩
  ·rw[if_pos (by rw[bne_iff_ne];omega),if_neg hd]
   exact⟨_,rfl,rfl,rfl,hq,fun _=>rfl⟩
 | wd w n r =>
  obtain⟨h1,h2,h3,h4,h5⟩:=h.wd
  simp only[jO,Toks.hd,Toks.pos,bF,n00,Option.bind_some,Bool.false_eq_true,if_false]
  rw[if_pos (by rw[bne_iff_ne];exact u9 hc h1)]
  exact⟨_,rfl,rfl,rfl,hq,fun _=>rfl⟩
theorem x7{c:Nat}(hc:dS c=false)(hc0:c≠0){p:Int}{ts:Toks}(h:At t p ts)(d3 d4 d5 d6 o1 o2 o3 o4 o5):OkR (fun a=>a.2) (dG (c:Int) t p d3 d4 d5 d6 0 0 o1 o2 o3 o4 o5) (kD c ts) (fun a b=>At t a.1 b):=by
 have hs:=pH ht hc hc0 h d3 d4 d5 d6 o1 o2 o3 o4 o5
 unfold dG
 have live:bF c ts = .inl (false,ts)→kD c ts = .inr (21,(ts.pos:Int))→OkR (fun a=>a.2) ((aH (c:Int) t p d3 d4 d5 d6 0 0 o1 o2 o3 o4 o5).bind fun((r22,r23,r24,r25):Bool×Int×Int×Int) =>
   (((if(!r22)=true then((cE (21:Int) r23 t r23 d3 d4 d5 d6 r24 r25 o1 o2 o3 o4 o5).bind fun((r32,r33):Int×Int)=>some ((r32,r33)))
   else some ((r24,r25)))).bind fun((v6,v7):Int×Int)=>some (r23,v6,v7))) (kD c ts) (fun a b=>At t a.1 b):=fun h1 h2=>by
  rw[h1]at hs
  obtain⟨⟨b,q,u,v⟩,h1,h2',h3,h4,h5⟩:=hs
  cases h2'
  cases (show b=false from h3)
  rw[h1,h2]
  exact⟨(q,21,q),rfl,by show((21,q):Er)=(21,(ts.pos:Int));rw[show q=_ from h5 rfl],by show(21:Int)≠0;decide⟩
 cases ts with
 | bad n =>
  obtain⟨⟨b,q,u,v⟩,h1,h2,h3⟩:=hs
  cases h2
  rw[h1]
  cases b
  ·exact⟨(q,20,n),rfl,rfl,by show(20:Int)≠0;decide⟩
  ·exact⟨(q,20,n),rfl,rfl,by show(20:Int)≠0;decide⟩
 | eof n=>exact live rfl rfl
 | wd w n r=>exact live rfl rfl
 | sg d n r =>
  simp only[bF,kD]at live hs ⊢
  by_cases hd:d=c
  ·rw[if_pos hd]at hs ⊢
   obtain⟨⟨b,q,u,v⟩,h1,h2',h3,h4,h5⟩:=hs
   cases h2'
   cases (show b=true from h3)
   rw[h1]
   exact⟨_,rfl,rfl,h4⟩
  ·exact live (by rw[if_neg hd]) (by rw[if_neg hd];rfl)
theorem W0{p:Int}{ts:Toks}(h:At t p ts)(d3 d4 d5 d6 o1 o2 o3){o4 o5 sets}(hn:Nm o4 o5 sets)(hl:o4.length≤20000):OkR (fun a=>a.2.2.2) (eV t p d3 d4 d5 d6 0 0 o1 o2 o3 o4 o5) (hU sets ts) (fun a b=>a.1=b.1∧a.2.1=b.2.1∧At t a.2.2.1 b.2.2):=by
 unfold eV
 refine(M9 ht h d3 d4 d5 d6 o1 o2 o3 o4 o5).bind ?_ ?_
 ·rintro⟨w,n,q,c,x⟩ hy hc
  change c≠0 at hc
  refine⟨by simp only[hU,hy],?_⟩
  simp only[fO hc,Bool.false_eq_true,if_false,Option.bind_some]
  exact⟨_,rfl,rfl⟩
 ·rintro⟨w,n,q,c,x⟩ ⟨w',n',r⟩ hy hcd ⟨h1,h2,h3⟩
  dsimp only at h1 h2 h3
  cases hcd;subst h1;subst h2
  have hlk:=hn.look w
  simp only[hU,hy]
  simp only[M4 o4 w hl,BEq.rfl,if_true,Option.bind_some]
  by_cases hp:bZ o4 w<o4.length
  ·rw[if_pos hp]at hlk ⊢
   rw[hlk,decide_eq_true (by omega)]
   exact⟨(w,n,q,23,n),rfl,rfl,by show(23:Int)≠0;decide⟩
  ·rw[if_neg hp]at hlk ⊢
   rw[hlk,show decide ((-1:Int)≥0)=false from rfl]
   exact⟨(w,n,q,0,0),rfl,rfl,rfl,rfl,h3⟩
theorem G7{p:Int}{ts:Toks}(h:At t p ts)(d3 d4 d5 d6 o1 o2 o3){o4 o5 sets}(hn:Nm o4 o5 sets)(hl:o4.length≤20000):OkR (fun a=>a.2.2) (eU t p d3 d4 d5 d6 0 0 o1 o2 o3 o4 o5) (jN sets ts) (fun a b=>a.1=b.1∧At t a.2.1 b.2):=by
 unfold eU
 refine(M9 ht h d3 d4 d5 d6 o1 o2 o3 o4 o5).bind ?_ ?_
 ·rintro⟨w,n,q,c,x⟩ hy hc
  change c≠0 at hc
  refine⟨by simp only[jN,hy],?_⟩
  simp only[]
  rw[if_pos (by rw[bne_iff_ne];exact hc)]
  exact⟨_,rfl,rfl⟩
 ·rintro⟨w,n,q,c,x⟩ ⟨w',n',r⟩ hy hcd ⟨h1,h2,h3⟩
  dsimp only at h1 h2 h3
  cases hcd;subst h1;subst h2
  have hlk:=hn.look w
  simp only[jN,hy]
  simp only[M4 o4 w hl,bne_self_eq_false,Bool.false_eq_true,if_false,Option.bind_some]
  by_cases hp:bZ o4 w<o4.length
  ·have:=hn.hlen
   rw[if_pos hp]at hlk ⊢
   rw[hlk,if_neg (by simp),if_pos ⟨by omega,by omega⟩,if_pos (by omega)]
   exact⟨_,rfl,rfl,rfl,h3⟩
  ·rw[if_neg hp]at hlk ⊢
   rw[hlk,if_pos (by decide)]
   exact⟨(0,q,22,n),rfl,rfl,by show(22:Int)≠0;decide⟩
theorem Z8{p:Int}{ts:Toks}(h:At t p ts)(d3 d4 d5 d6 o1 o2 o3 o4 o5)(hl:o1.length≤24):OkR (fun a=>a.2.2) (eW t p d3 d4 d5 d6 0 0 o1 o2 o3 o4 o5) (xB o1 ts) (fun a b=>a.1=b.1∧At t a.2.1 b.2):=by
 unfold eW
 refine(M9 ht h d3 d4 d5 d6 o1 o2 o3 o4 o5).bind ?_ ?_
 ·rintro⟨w,n,q,c,x⟩ hy hc
  change c≠0 at hc
  refine⟨by simp only[xB,hy],?_⟩
  simp only[]
  rw[aX (r:= .inl ()) (by
   unfold bN
   simp only[fO hc]
   split <;> rfl)]
  simp only[Option.bind_some]
  rw[vQ hc]
  exact⟨_,rfl,rfl⟩
 ·rintro⟨w,n,q,c,x⟩ ⟨w',n',r⟩ hy hcd ⟨h1,h2,h3⟩
  dsimp only at h1 h2 h3
  cases hcd;subst h1;subst h2
  simp only[xB,hy]
  have hle:bZ o1 w≤o1.length:=j5 _ _
  have pre:∀(k:Nat),k<o1.length→((if decide ((k:Int)<(o1.length:Int))=true then some ((0:Int) == 0)else some false):Option Bool)=some true:=fun k hk=>by
   rw[if_pos (by simp;omega)];rfl
  have hb:∀k,k<bZ o1 w→bN o1 w q 0 0 (k:Int)=some (.inl ((k+1:Nat):Int)):=fun k hk=>by
   have:=lJ (fun i=>o1.getD i [] == w) o1.length hk
   unfold bN
   rw[pre k (by omega)]
   simp only[Option.bind_some,if_true]
   rw[if_pos ⟨by omega,by omega⟩,if_pos (by omega),if_neg (by
    rw[Int.toNat_natCast,this];simp),aP (by omega) (by omega)]
   rfl
  by_cases hp:bZ o1 w<o1.length
  ·have hat:=lI (fun i=>o1.getD i [] == w) o1.length hp
   have he:bN o1 w q 0 0 ((bZ o1 w:Nat):Int)=some (.inr (.inr ((bZ o1 w:Int),q,0,0))):=by
    unfold bN
    rw[pre _ hp]
    simp only[Option.bind_some,if_true]
    rw[if_pos ⟨by omega,by omega⟩,if_pos (by omega),if_pos (by
     rw[Int.toNat_natCast];exact hat)]
   have:=cC (fun k:Nat=>(k:Int)) (bZ o1 w) hb he
   rw[show iter (bN o1 w q 0 0) 0=_ from this,if_pos hp]
   exact⟨_,rfl,rfl,rfl,h3⟩
  ·have hpe:bZ o1 w=o1.length:=by omega
   have he:bN o1 w q 0 0 ((bZ o1 w:Nat):Int)=some (.inr (.inl ())):=by
    unfold bN
    rw[if_neg (by simp;omega)]
    rfl
   have:=cC (fun k:Nat=>(k:Int)) (bZ o1 w) hb he
   rw[show iter (bN o1 w q 0 0) 0=_ from this,if_neg hp]
   exact⟨(0,q,22,n),rfl,rfl,by show(22:Int)≠0;decide⟩
theorem Z3{c:Nat}(hc:dS c=false)(hc0:c≠0)(d3 d4 d5 d6 o1 o2 o3){o4 o5 sets}(hn:Nm o4 o5 sets)(hl:o4.length≤20000):∀(ts:Toks) (p b:Int),At t p ts→OkR (fun a=>a.2.2) (iter (bQ (c:Int) t d3 d4 d5 d6 o1 o2 o3 o4 o5) (p,0,0,b)) (jG c sets ts b) (fun a b=>a.1=b.1∧At t a.2.1 b.2):=by
 have fault:∀(ts:Toks) (p b n e:Int),At t p ts→bF c ts = .inl (false,ts)→jN sets ts = .inr (e,n)→e≠0→∃a,iter (bQ (c:Int) t d3 d4 d5 d6 o1 o2 o3 o4 o5) (p,0,0,b)=some a∧a.2.2=(e,n):=fun ts p b n e h h1 h2 he=>by
  have hs:=pH ht hc hc0 h d3 d4 d5 d6 o1 o2 o3 o4 o5
  rw[h1]at hs
  obtain⟨⟨b1,q1,u,v⟩,k1,k2,k3,k4,k5⟩:=hs
  cases k2
  cases (show b1=false from k3)
  have hm:=G7 ht k4 d3 d4 d5 d6 o1 o2 o3 hn hl
  rw[h2]at hm
  obtain⟨⟨m1,m2,m3,m4⟩,k6,k7,k8⟩:=hm
  cases k7
  rw[bR (s':=(m2,e,n,bY .or .u32 b m1)) (by
   unfold bQ
   simp only[BEq.rfl,if_true]
   rw[k1]
   simp only[Option.bind_some,Bool.not_false,if_true]
   dsimp only at k6
   rw[k6]
   rfl),nE he]
  exact⟨_,rfl,rfl⟩
 intro ts
 induction ts with
 | bad n =>
  intro p b h
  have hs:=pH ht hc hc0 h d3 d4 d5 d6 o1 o2 o3 o4 o5
  obtain⟨⟨b1,q1,u,v⟩,k1,k2,k3⟩:=hs
  cases k2
  have hb:iter (bQ (c:Int) t d3 d4 d5 d6 o1 o2 o3 o4 o5) (p,0,0,b)=(if b1 then some (b,q1,20,(n:Int))else(iter (bQ (c:Int) t d3 d4 d5 d6 o1 o2 o3 o4 o5) (q1,20,(n:Int),bY .or .u32 b 0))):=by
   cases b1 with
   | true =>
    apply aX
    unfold bQ
    simp only[BEq.rfl,if_true]
    rw[k1]
    rfl
   | false =>
    rw[if_neg (by decide)]
    apply bR
    unfold bQ
    simp only[BEq.rfl,if_true]
    rw[k1]
    simp only[Option.bind_some,Bool.not_false,if_true]
    rw[G9 (by decide)]
    rfl
  rw[hb]
  cases b1 with
  | true=>exact⟨_,rfl,rfl,by show(20:Int)≠0;decide⟩
  | false =>
   rw[if_neg (by decide),nE (by decide)]
   exact⟨_,rfl,rfl,by show(20:Int)≠0;decide⟩
 | eof n =>
  intro p b h
  obtain⟨a,h1,h2⟩:=fault _ p b n 21 h rfl rfl (by decide)
  exact⟨a,h1,h2,by show(21:Int)≠0;decide⟩
 | sg d n r ih =>
  intro p b h
  simp only[jG]
  by_cases hd:d=c
  ·have hs:=pH ht hc hc0 h d3 d4 d5 d6 o1 o2 o3 o4 o5
   simp only[bF,if_pos hd]at hs
   rw[if_pos hd]
   obtain⟨⟨b1,q1,u,v⟩,k1,k2,k3,k4,k5⟩:=hs
   cases k2
   cases (show b1=true from k3)
   refine⟨(b,q1,0,0),aX ?_,rfl,rfl,k4⟩
   unfold bQ
   simp only[BEq.rfl,if_true]
   rw[k1]
   rfl
  ·rw[if_neg hd]
   obtain⟨a,h1,h2⟩:=fault _ p b n 21 h (by simp only[bF,if_neg hd]) rfl (by decide)
   exact⟨a,h1,h2,by show(21:Int)≠0;decide⟩
 | wd w n r ih =>
  intro p b h
  simp only[jG]
  cases hlk:look sets w with
  | none =>
   obtain⟨a,h1,h2⟩:=fault _ p b n 22 h rfl (by simp only[jN,gO,hlk]) (by decide)
   exact⟨a,h1,h2,by show(22:Int)≠0;decide⟩
  | some x =>
   have hs:=pH ht hc hc0 h d3 d4 d5 d6 o1 o2 o3 o4 o5
   obtain⟨⟨b1,q1,u,v⟩,k1,k2,k3,k4,k5⟩:=hs
   cases k2
   cases (show b1=false from k3)
   have hm:=G7 ht k4 d3 d4 d5 d6 o1 o2 o3 hn hl
   simp only[jN,gO,hlk]at hm
   obtain⟨⟨m1,m2,m3,m4⟩,k6,k7,k8,k9⟩:=hm
   cases k7
   dsimp only at k8 k9 k6
   subst k8
   rw[bR (s':=(m2,0,0,bY .or .u32 b m1)) (by
    unfold bQ
    simp only[BEq.rfl,if_true]
    rw[k1]
    simp only[Option.bind_some,Bool.not_false,if_true]
    rw[k6]
    rfl)]
   exact ih m2 _ k9
theorem M5{c:Nat}(hc:dS c=false)(hc0:c≠0){p:Int}{ts:Toks}(h:At t p ts)(d3 d4 d5 d6 o1 o2 o3){o4 o5 sets}(hn:Nm o4 o5 sets)(hl:o4.length≤20000):OkR (fun a=>a.2.2) (eK (c:Int) t p d3 d4 d5 d6 0 0 o1 o2 o3 o4 o5) (jG c sets ts 0) (fun a b=>a.1=b.1∧At t a.2.1 b.2):=by
 have:=Z3 ht hc hc0 d3 d4 d5 d6 o1 o2 o3 hn hl ts p 0 h
 unfold eK
 refine this.bind ?_ ?_
 ·rintro⟨w,n,q,c⟩ hy hc
  exact⟨hy,_,rfl,rfl⟩
 ·rintro⟨w,n,q,c⟩ ⟨x,r⟩ hy hcd ⟨h1,h2⟩
  rw[hy]
  exact⟨_,rfl,hcd,h1,h2⟩
end
end Go.Proofs.Ytjfjigknkhgkdaa.T
