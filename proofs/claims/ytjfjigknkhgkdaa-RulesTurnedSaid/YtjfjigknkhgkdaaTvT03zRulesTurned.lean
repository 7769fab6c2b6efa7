/- Functions of the program as functions on data, and that the program's own come to them. -/
import Derived.Test.YtjfjigknkhgkdaaTvT03z0
import Derived.Test.YtjfjigknkhgkdaaTvT03zRulesTurned1
namespace Go.Proofs.Ytjfjigknkhgkdaa.T
open Go Go.Tv Go.Proofs
noncomputable section
set_option maxRecDepth 100000
set_option maxHeartbeats 4000000
def dA(d1:List UInt8):(Int)→Option ((Int)⊕(Int)):=fun d37 =>
 (((if(decide (d37<(d1.length:Int)))=true then(if 0≤d37∧d37<(d1.length:Int)then some ((((d1.getD d37.toNat 0).toNat:Int) != (10:Int)))else none)
 else some (false))).bind fun v48=>(if v48=true then some (Sum.inl (IntKind.i64.wrap (d37+(1:Int))))
 else some (Sum.inr d37)))
def eI(d1:List UInt8)(d33 d34 d35:Int):(Int)→Option ((Int)⊕((Unit)⊕(Int×Int×Int×Int))):=fun v51 =>
 (if(decide (v51<(([40,41,91,93,94,124,42,43,63,46,59,47,61]:List UInt8).length:Int)))=true then(if 0≤v51∧v51<(([40,41,91,93,94,124,42,43,63,46,59,47,61]:List UInt8).length:Int)then(if(((([40,41,91,93,94,124,42,43,63,46,59,47,61]:List UInt8).getD v51.toNat 0).toNat:Int) == ((d1.getD d33.toNat 0).toNat:Int))=true then some (Sum.inr (Sum.inr (((d1.getD d33.toNat 0).toNat:Int),d33,d34,d35)))
 else some (Sum.inl (IntKind.i64.wrap (v51+(1:Int)))))else none)
 else some (Sum.inr (Sum.inl ())))
def b7(d1:List UInt8)(d3 d4 d5 d6:Int)(o1:List (List UInt8))(o2:List Int)(o3:List (Int×Tree×Tree))(o4:List (List UInt8))(o5:List Int):(Int×Int×Int)→Option ((Int×Int×Int)⊕((Int×Int×Int)⊕(Int×Int×Int×Int))):=fun(d33,d34,d35) =>
 (((if(d34 == (0:Int))=true then some ((decide (d33<(d1.length:Int))))
 else some (false))).bind fun v45=>(if v45=true then(if 0≤d33∧d33<(d1.length:Int)then(if(((d1.getD d33.toNat 0).toNat:Int) == (35:Int))=true then((iter (dA d1) d33).bind fun d38=>some (Sum.inl (d38,d34,d35)))
 else(((if(((d1.getD d33.toNat 0).toNat:Int) == (32:Int))=true then some (true)
 else(if(((d1.getD d33.toNat 0).toNat:Int) == (9:Int))=true then some (true)
 else(if(((d1.getD d33.toNat 0).toNat:Int) == (10:Int))=true then some (true)
 else some ((((d1.getD d33.toNat 0).toNat:Int) == (13:Int))))))).bind fun v49=>(if v49=true then some (Sum.inl ((IntKind.i64.wrap (d33+(1:Int))),d34,d35))
 else((iter (eI d1 d33 d34 d35) (0:Int)).bind fun(r54:((Unit)⊕(Int×Int×Int×Int)))=>match r54 with
 | .inl _=>((fF ((d1.getD d33.toNat 0).toNat:Int)).bind fun r56 =>
 (if r56=true then some (Sum.inr (Sum.inr (((d1.getD d33.toNat 0).toNat:Int),d33,d34,d35)))
 else((cE (20:Int) d33 d1 d33 d3 d4 d5 d6 d34 d35 o1 o2 o3 o4 o5).bind fun(r59,r60) =>
 some (Sum.inl (d33,r59,r60)))))
 | .inr ((r50,r51,r52,r53))=>some (Sum.inr (Sum.inr (r50,r51,r52,r53)))))))else none)
 else some (Sum.inr (Sum.inl (d33,d34,d35)))))
def eG(d1:List UInt8)(d2 d3 d4 d5 d6 d7 d8:Int)(o1:List (List UInt8))(o2:List Int)(o3:List (Int×Tree×Tree))(o4:List (List UInt8))(o5:List Int):Option (Int×Int×Int×Int) :=
 ((iter (b7 d1 d3 d4 d5 d6 o1 o2 o3 o4 o5) (d2,d7,d8)).bind fun(r61:((Int×Int×Int)⊕(Int×Int×Int×Int)))=>match r61 with
 | .inl (v42,v43,v44)=>some ((0:Int),v42,v43,v44)
 | .inr ((r46,r47,r48,r49))=>some (r46,r47,r48,r49))
theorem gG{d1:List UInt8}{d2:Int}{d3:Int}{d4:Int}{d5:Int}{d6:Int}{d7:Int}{d8:Int}{o1:List (List UInt8)}{o2:List Int}{o3:List (Int×Tree×Tree)}{o4:List (List UInt8)}{o5:List Int}{res:Int×Int×Int×Int}(h:eG d1 d2 d3 d4 d5 d6 d7 d8 o1 o2 o3 o4 o5=some res):
  Owns Try.prog 26 [.adr 0 0 13 0] (bJ d1 d2 d3 d4 d5 d6 d7 d8 o1 o2 o3 o4 o5) (.u8 res.1) (bJ d1 res.2.1 d3 d4 d5 d6 res.2.2.1 res.2.2.2 o1 o2 o3 o4 o5):=by
 refine Owns.of_body bL Try.func26 (by kernel_rfl) rfl (nl rfl) (fun Bw w0=> ?_)
 unfold eG at h
 refine G (aD (aK (n0 h (fun(d33,d34,d35)=>aQ [(0,.adr 0 0 13 0)] (bJ d1 d33 d3 d4 d5 d6 d34 d35 o1 o2 o3 o4 o5) 6 6) (fT (gR Try.f26.ntmps 0 (fun(v42,v43,v44)=>aQ [] (bJ d1 v42 d3 d4 d5 d6 v43 v44 o1 o2 o3 o4 o5) 6 6)) (sV tb Try.f26.ntmps Try.f26.results.toList (fun(r46,r47,r48,r49)=>(.u8 r46,(bJ d1 r47 d3 d4 d5 d6 r48 r49 o1 o2 o3 o4 o5))))) (gg [] [0,1,2,3,4,5]) (fun y o h=> ?_) (fun r61 h e σ' hq=> ?_))))
 ·obtain⟨d33,d34,d35⟩:=y
  unfold b7 at h
  refine aD (aD (eM h (fun v45=>aQ [(0,.adr 0 0 13 0),(22,.bo v45)] (bJ d1 d33 d3 d4 d5 d6 d34 d35 o1 o2 o3 o4 o5) 6 6) (fun v45 h=> ?_) (fun v45 h=> ?_)))
  ·rcases aW h with⟨hb173,h⟩ | ⟨hb173,h⟩
   ·refine yT ⟨[(5,true),(16,true)],[]⟩ [(6,15,an hb173),(16,16,oc hb173)] ?_
    exact eN h (gg [] [0,1,2,3,4,5])
   refine yT ⟨[(5,false),(16,false)],[]⟩ [(6,16,oc hb173)] ?_
   exact eN h (gg [] [0,1,2,3,4,5])
  refine aA (aU h (fun hb174 h=> ?_) (fun hb174 h=> ?_))
  ·refine aC (aA (aK ?_))
   obtain⟨c87,h⟩:=bO h
   refine GD a0 [(8,8,oc c87)] (aK (G (aU h (fun hb175 h=> ?_) (fun hb175 h=> ?_))))
   ·refine aK (t7 h (fun d37=>aQ [(0,.adr 0 0 13 0)] (bJ d1 d37 d3 d4 d5 d6 d34 d35 o1 o2 o3 o4 o5) 6 6) 5 (fun d38=>aQ [(0,.adr 0 0 13 0)] (bJ d1 d38 d3 d4 d5 d6 d34 d35 o1 o2 o3 o4 o5) 6 6) (gg [] [0,1,2,3,4,5]) (fun d37 o h=> ?_) (fun d38 h=> ?_))
    ·unfold dA at h
     refine aD (aD (eM h (fun v48=>aQ [(0,.adr 0 0 13 0),(77,.bo v48)] (bJ d1 d37 d3 d4 d5 d6 d34 d35 o1 o2 o3 o4 o5) 6 6) (fun v48 h=> ?_) (fun v48 h=> ?_)))
     ·rcases aW h with⟨hb186,h⟩ | ⟨hb186,h⟩
      ·obtain⟨c96,h⟩:=bO h
       refine yT ⟨[(10,true),(21,true)],[]⟩ [(11,18,an hb186),(19,19,oc (And.intro hb186 c96)),(20,20,an hb186),(21,21,oc hb186)] ?_
       exact eN h (gg [] [0,1,2,3,4,5])
      refine yT ⟨[(10,false),(21,false)],[]⟩ [(11,21,oc hb186)] ?_
      exact eN h (gg [] [0,1,2,3,4,5])
     refine aA (aU h (fun hb187 h=> ?_) (fun hb187 h=> ?_))
     ·refine aC (aA (aK (Ge (aO ?_))))
      exact eB h (gg [] [0,1,2,3,4,5])
     refine bA (eL ?_)
     exact eX h (gg [] [0,1,2,3,4,5])
    refine bB (aO (aO ?_))
    exact eB h (gg [] [0,1,2,3,4,5])
   refine aD (eM h (fun v49=>aQ [(0,.adr 0 0 13 0),(3,.u8 ((d1.getD d33.toNat 0).toNat:Int)),(86,.bo v49)] (bJ d1 d33 d3 d4 d5 d6 d34 d35 o1 o2 o3 o4 o5) 6 6) (fun v49 h=> ?_) (fun v49 h=> ?_))
   ·rcases aW h with⟨hb194,h⟩ | ⟨hb194,h⟩
    ·refine dT ⟨[(2,true),(5,true)],[]⟩ [(3,5,oc hb194)] ?_
     exact eN h (gg [] [0,1,2,3,4,5])
    rcases aW h with⟨hb195,h⟩ | ⟨hb195,h⟩
    ·refine dT ⟨[(2,false),(5,false),(6,true),(9,true)],[]⟩ [(3,4,an hb194),(5,5,oc hb194),(7,9,oc hb195)] ?_
     exact eN h (gg [] [0,1,2,3,4,5])
    rcases aW h with⟨hb196,h⟩ | ⟨hb196,h⟩
    ·refine dT ⟨[(2,false),(5,false),(6,false),(9,false),(10,true),(13,true)],[]⟩ [(3,4,an hb194),(5,5,oc hb194),(7,8,an hb195),(9,9,oc hb195),(11,13,oc hb196)] ?_
     exact eN h (gg [] [0,1,2,3,4,5])
    refine dT ⟨[(2,false),(5,false),(6,false),(9,false),(10,false),(13,false)],[]⟩ [(3,4,an hb194),(5,5,oc hb194),(7,8,an hb195),(9,9,oc hb195),(11,12,an hb196),(13,13,oc hb196)] ?_
    exact eN h (gg [] [0,1,2,3,4,5])
   refine aA (aU h (fun hb197 h=> ?_) (fun hb197 h=> ?_))
   ·refine Ge (aO (aO ?_))
    exact eB h (gg [] [0,1,2,3,4,5])
   refine G (aD (G (aK (n0 h (fun v51=>aQ [(0,.adr 0 0 13 0),(3,.u8 ((d1.getD d33.toNat 0).toNat:Int)),(4,.st ([40,41,91,93,94,124,42,43,63,46,59,47,61]:List UInt8)),(5,.i64 v51)] (bJ d1 d33 d3 d4 d5 d6 d34 d35 o1 o2 o3 o4 o5) 6 6) (fT (gR Try.f26.ntmps 3 (fun _=>aQ [(0,.adr 0 0 13 0),(3,.u8 ((d1.getD d33.toNat 0).toNat:Int))] (bJ d1 d33 d3 d4 d5 d6 d34 d35 o1 o2 o3 o4 o5) 6 6)) (sV tb Try.f26.ntmps Try.f26.results.toList (fun(r50,r51,r52,r53)=>(.u8 r50,(bJ d1 r51 d3 d4 d5 d6 r52 r53 o1 o2 o3 o4 o5))))) (gg [] [0,1,2,3,4,5]) (fun v51 o h=> ?_) (fun r54 h e σ' hq=> ?_)))))
   ·unfold eI at h
    refine aD (G (aU h (fun hb202 h=> ?_) (fun hb202 h=> ?_)))
    ·refine aC (aA (aD (aK (GC 2 h (fun h=>aU h (fun hb203 h=> ?_) (fun hb203 h=> ?_))))))
     ·refine G (aN ?_)
      obtain rfl:=sI h
      refine aM (aG (dX (aS ?_)))
      exact j7 (aE [some (.int .u8)] [] [0,1,2,3,4,5] [(2,.u8 ((d1.getD d33.toNat 0).toNat:Int))] (bJ d1 d33 d3 d4 d5 d6 d34 d35 o1 o2 o3 o4 o5) 6 6 (by kernel_rfl) (by kernel_rfl) (by kernel_rfl))
     refine aC (aO (aA (Ge ?_)))
     exact eB h (gg [] [0,1,2,3,4,5])
    refine bA (eL ?_)
    obtain rfl:=sI h
    refine fV (cX ?_)
    exact dB (gg [] [0,1,2,3,4,5])
   rcases r54 with _ | ⟨r50,r51,r52,r53⟩
   ·obtain⟨rfl,hle⟩:=hq
    refine fL ?_ hle
    refine bB (aA (aD ?_))
    obtain⟨r56,q22,h⟩:=aB h
    refine GP 1 (fB q22) (aU h (fun hb204 h=> ?_) (fun hb204 h=> ?_))
    ·refine G (aN ?_)
     obtain rfl:=sI h
     refine aG (aM (aM (dX (aS ?_))))
     exact j7 (aE [some (.int .u8)] [] [0,1,2,3,4,5] [(2,.u8 ((d1.getD d33.toNat 0).toNat:Int))] (bJ d1 d33 d3 d4 d5 d6 d34 d35 o1 o2 o3 o4 o5) 6 6 (by kernel_rfl) (by kernel_rfl) (by kernel_rfl))
    refine aC (aA ?_)
    obtain⟨⟨r59,r60⟩,q24,h⟩:=aB h
    refine jH 5 [0,1,2,3,4,5] (cR q24) (aO (aO ?_))
    exact eB h (gg [] [0,1,2,3,4,5])
   obtain⟨rfl,hr⟩:=hq
   obtain rfl:=sI h
   refine aM (aG (aM (aM (dX (aS ?_)))))
   exact j7 hr
  refine bA (eL ?_)
  obtain rfl:=sI h
  refine fV (cX ?_)
  exact dB (gg [] [0,1,2,3,4,5])
 rcases r61 with⟨v42,v43,v44⟩ | ⟨r46,r47,r48,r49⟩
 ·obtain⟨rfl,hle⟩:=hq
  refine fL ?_ hle
  refine bB (aA (G (aN ?_)))
  obtain rfl:=sI h
  exact aE [some (.int .u8)] [] [0,1,2,3,4,5] [(2,.u8 (0:Int))] (bJ d1 v42 d3 d4 d5 d6 v43 v44 o1 o2 o3 o4 o5) 6 6 (by kernel_rfl) (by kernel_rfl) (by kernel_rfl)
 obtain⟨rfl,hr⟩:=hq
 refine aM (aG ?_)
 obtain rfl:=sI h
 exact hr
def dQ(d1:List UInt8):(Int)→Option ((Int)⊕(Int)):=fun d17 =>
 (((if(decide (d17<(d1.length:Int)))=true then(if 0≤d17∧d17<(d1.length:Int)then((fF ((d1.getD d17.toNat 0).toNat:Int)).bind fun r60 =>
 some (r60))else none)
 else some (false))).bind fun v11=>(if v11=true then some (Sum.inl (IntKind.i64.wrap (d17+(1:Int))))
 else some (Sum.inr d17)))
def cZ(d1:List UInt8)(d2 d3 d4 d5 d6 d7 d8:Int)(o1:List (List UInt8))(o2:List Int)(o3:List (Int×Tree×Tree))(o4:List (List UInt8))(o5:List Int):Option ((List UInt8)×Int×Int×Int×Int) :=
 ((eG d1 d2 d3 d4 d5 d6 d7 d8 o1 o2 o3 o4 o5).bind fun(r36,r37,r38,r39) =>
 (((if(r38 == (0:Int))=true then((fF r36).bind fun r42 =>
 some ((!r42)))
 else some (false))).bind fun v8=>(((if v8=true then((cE (21:Int) r37 d1 r37 d3 d4 d5 d6 r38 r39 o1 o2 o3 o4 o5).bind fun(r49,r50) =>
 some ((r49,r50)))
 else some ((r38,r39)))).bind fun(d14,d15)=>(if(d14 != (0:Int))=true then some (([]:List UInt8),r37,r37,d14,d15)
 else((iter (dQ d1) r37).bind fun d18=>(if 0≤r37∧r37≤d18∧d18≤(d1.length:Int)then some (((d1.take d18.toNat).drop r37.toNat),r37,d18,d14,d15)else none))))))
theorem iT{d1:List UInt8}{d2:Int}{d3:Int}{d4:Int}{d5:Int}{d6:Int}{d7:Int}{d8:Int}{o1:List (List UInt8)}{o2:List Int}{o3:List (Int×Tree×Tree)}{o4:List (List UInt8)}{o5:List Int}{res:(List UInt8)×Int×Int×Int×Int}(h:cZ d1 d2 d3 d4 d5 d6 d7 d8 o1 o2 o3 o4 o5=some res):
  Owns Try.prog 38 [.adr 0 0 13 0] (bJ d1 d2 d3 d4 d5 d6 d7 d8 o1 o2 o3 o4 o5) (.tup [.st res.1,.i64 res.2.1]) (bJ d1 res.2.2.1 d3 d4 d5 d6 res.2.2.2.1 res.2.2.2.2 o1 o2 o3 o4 o5):=by
 refine Owns.of_body bL Try.func38 (by kernel_rfl) rfl (nl rfl) (fun Bw w0=> ?_)
 unfold cZ at h
 refine G ?_
 obtain⟨⟨r36,r37,r38,r39⟩,q20,h⟩:=aB h
 refine GO 1 [0,1,2,3,4,5] (gG q20) (G (aD (aD (eM h (fun v8=>aQ [(0,.adr 0 0 13 0),(5,.i64 r37),(21,.bo v8)] (bJ d1 r37 d3 d4 d5 d6 r38 r39 o1 o2 o3 o4 o5) 6 6) (fun v8 h=> ?_) (fun v8 h=> ?_)))))
 ·rcases aW h with⟨hb21,h⟩ | ⟨hb21,h⟩
  ·obtain⟨r42,q23,h⟩:=aB h
   have u_1:=(fB q23)
   refine dT ⟨[(5,true),(9,true)],[(7,(oP u_1))]⟩ [(6,6,an hb21),(7,7,oc (And.intro hb21 u_1)),(8,8,an hb21),(9,9,oc hb21)] ?_
   exact eN h (gg [] [0,1,2,3,4,5])
  refine dT ⟨[(5,false),(9,false)],[]⟩ [(6,9,oc hb21)] ?_
  exact eN h (gg [] [0,1,2,3,4,5])
 refine aA (eM h (fun(d14,d15)=>aQ [(0,.adr 0 0 13 0),(5,.i64 r37)] (bJ d1 r37 d3 d4 d5 d6 d14 d15 o1 o2 o3 o4 o5) 6 6) (fun r51 h=> ?_) (fun r51 h=> ?_))
 ·refine aU h (fun hb23 h=> ?_) (fun hb23 h=> ?_)
  ·obtain⟨⟨r49,r50⟩,q27,h⟩:=aB h
   refine jH 2 [0,1,2,3,4,5] (cR q27) ?_
   exact eN h (gg [] [0,1,2,3,4,5])
  refine aC ?_
  exact eN h (gg [] [0,1,2,3,4,5])
 obtain⟨d14,d15⟩:=r51
 refine aA (aD (G (aU h (fun hb24 h=> ?_) (fun hb24 h=> ?_))))
 ·refine G (aN (aG ?_))
  obtain rfl:=sI h
  exact aE [some .str,some (.int .i64)] [] [0,1,2,3,4,5] [(2,.st ([]:List UInt8)),(3,.i64 r37)] (bJ d1 r37 d3 d4 d5 d6 d14 d15 o1 o2 o3 o4 o5) 6 6 (by kernel_rfl) (by kernel_rfl) (by kernel_rfl)
 refine aC (aA (aD (aK (t7 h (fun d17=>aQ [(0,.adr 0 0 13 0),(5,.i64 r37)] (bJ d1 d17 d3 d4 d5 d6 d14 d15 o1 o2 o3 o4 o5) 6 6) 0 (fun d18=>aQ [(0,.adr 0 0 13 0),(5,.i64 r37)] (bJ d1 d18 d3 d4 d5 d6 d14 d15 o1 o2 o3 o4 o5) 6 6) (gg [] [0,1,2,3,4,5]) (fun d17 o h=> ?_) (fun d18 h=> ?_)))))
 ·unfold dQ at h
  refine aD (aD (eM h (fun v11=>aQ [(0,.adr 0 0 13 0),(5,.i64 r37),(52,.bo v11)] (bJ d1 d17 d3 d4 d5 d6 d14 d15 o1 o2 o3 o4 o5) 6 6) (fun v11 h=> ?_) (fun v11 h=> ?_)))
  ·rcases aW h with⟨hb35,h⟩ | ⟨hb35,h⟩
   ·obtain⟨c20,h⟩:=bO h
    obtain⟨r60,q36,h⟩:=aB h
    have u_1:=(fB q36)
    refine yT ⟨[(10,true),(21,true)],[(20,(oP u_1))]⟩ [(11,18,an hb35),(19,19,oc (And.intro hb35 c20)),(20,20,oc (And.intro hb35 u_1)),(21,21,oc hb35)] ?_
    exact eN h (gg [] [0,1,2,3,4,5])
   refine yT ⟨[(10,false),(21,false)],[]⟩ [(11,21,oc hb35)] ?_
   exact eN h (gg [] [0,1,2,3,4,5])
  refine aA (aU h (fun hb36 h=> ?_) (fun hb36 h=> ?_))
  ·refine aC (aA (aK (Ge (aO ?_))))
   exact eB h (gg [] [0,1,2,3,4,5])
  refine bA (eL ?_)
  exact eX h (gg [] [0,1,2,3,4,5])
 refine bB (aA ?_)
 obtain⟨c22,h⟩:=bO h
 refine GD a0 [(9,9,oc c22)] (aN ?_)
 obtain rfl:=sI h
 exact aE [some .str,some (.int .i64)] [] [0,1,2,3,4,5] [(2,.st ((d1.take d18.toNat).drop r37.toNat)),(3,.i64 r37)] (bJ d1 d18 d3 d4 d5 d6 d14 d15 o1 o2 o3 o4 o5) 6 6 (by kernel_rfl) (by kernel_rfl) (by kernel_rfl)
def aH(c1:Int)(p1:List UInt8)(p2 p3 p4 p5 p6 p7 p8:Int)(o1:List (List UInt8))(o2:List Int)(o3:List (Int×Tree×Tree))(o4:List (List UInt8))(o5:List Int):Option (Bool×Int×Int×Int) :=
 ((eG p1 p2 p3 p4 p5 p6 p7 p8 o1 o2 o3 o4 o5).bind fun(r14,r15,r16,r17) =>
 (((if(r16 != (0:Int))=true then some (true)
 else some ((r14 != c1)))).bind fun v5=>(if v5=true then some (false,r15,r16,r17)
 else some (true,(IntKind.i64.wrap (r15+(1:Int))),r16,r17))))
theorem b8{c1:Int}{p1:List UInt8}{p2:Int}{p3:Int}{p4:Int}{p5:Int}{p6:Int}{p7:Int}{p8:Int}{o1:List (List UInt8)}{o2:List Int}{o3:List (Int×Tree×Tree)}{o4:List (List UInt8)}{o5:List Int}{res:Bool×Int×Int×Int}(h:aH c1 p1 p2 p3 p4 p5 p6 p7 p8 o1 o2 o3 o4 o5=some res):
  Owns Try.prog 39 [.adr 0 0 13 0,.u8 c1] (bJ p1 p2 p3 p4 p5 p6 p7 p8 o1 o2 o3 o4 o5) (.bo res.1) (bJ p1 res.2.1 p3 p4 p5 p6 res.2.2.1 res.2.2.2 o1 o2 o3 o4 o5):=by
 refine Owns.of_body bL Try.func39 (by kernel_rfl) rfl (nl rfl) (fun Bw w0=> ?_)
 unfold aH at h
 refine G ?_
 obtain⟨⟨r14,r15,r16,r17⟩,q4,h⟩:=aB h
 refine GO 1 [0,1,2,3,4,5] (gG q4) (aD (aD (eM h (fun v5=>aQ [(0,.adr 0 0 13 0),(17,.bo v5)] (bJ p1 r15 p3 p4 p5 p6 r16 r17 o1 o2 o3 o4 o5) 6 6) (fun v5 h=> ?_) (fun v5 h=> ?_))))
 ·rcases aW h with⟨hb7,h⟩ | ⟨hb7,h⟩
  ·refine dT ⟨[(5,true),(9,true)],[]⟩ [(6,9,oc hb7)] ?_
   exact eN h (gg [] [0,1,2,3,4,5])
  refine dT ⟨[(5,false),(9,false)],[]⟩ [(6,8,an hb7),(9,9,oc hb7)] ?_
  exact eN h (gg [] [0,1,2,3,4,5])
 refine aA (aU h (fun hb8 h=> ?_) (fun hb8 h=> ?_))
 ·refine G (aN (aG ?_))
  obtain rfl:=sI h
  exact aE [some .bool] [] [0,1,2,3,4,5] [(4,.bo false)] (bJ p1 r15 p3 p4 p5 p6 r16 r17 o1 o2 o3 o4 o5) 6 6 (by kernel_rfl) (by kernel_rfl) (by kernel_rfl)
 refine aC (aA (G (G (aN ?_))))
 obtain rfl:=sI h
 exact aE [some .bool] [] [0,1,2,3,4,5] [(4,.bo true)] (bJ p1 (IntKind.i64.wrap (r15+(1:Int))) p3 p4 p5 p6 r16 r17 o1 o2 o3 o4 o5) 6 6 (by kernel_rfl) (by kernel_rfl) (by kernel_rfl)
def cJ(p8:List (List UInt8))(s1:List UInt8):(Int)→Option ((Int)⊕((Unit)⊕(Int))):=fun i2 =>
 (if(decide (i2<(p8.length:Int)))=true then(if 0≤i2∧i2<(p8.length:Int)then(if((p8.getD i2.toNat ([]:List UInt8)) == s1)=true then some (Sum.inr (Sum.inr i2))
 else some (Sum.inl (IntKind.i64.wrap (i2+(1:Int)))))else none)
 else some (Sum.inr (Sum.inl ())))
def iR(p1:List UInt8)(p2:Int)(p3:List (List UInt8))(p4 p5:Int)(p6:List Int)(p7:List (Int×Tree×Tree))(p8:List (List UInt8))(p9:List Int)(p10 p11 p12 p13:Int)(s1:List UInt8):Option (Int) :=
 ((iter (cJ p8 s1) (0:Int)).bind fun(r2:((Unit)⊕(Int)))=>match r2 with
 | .inl _=>some (-1:Int)
 | .inr (r1)=>some r1)
theorem pB(β2 β5 β6 β7 β8:Bool){p1:List UInt8}{p2:Int}{p3:List (List UInt8)}{p4:Int}{p5:Int}{p6:List Int}{p7:List (Int×Tree×Tree)}{p8:List (List UInt8)}{p9:List Int}{p10:Int}{p11:Int}{p12:Int}{p13:Int}{s1:List UInt8}{res:Int}(h:iR p1 p2 p3 p4 p5 p6 p7 p8 p9 p10 p11 p12 p13 s1=some res):
  Pure Try.prog 56 [.fad true [.st p1,.i64 p2,.p β2 (.slice .str) p3,.u32 p4,.u32 p5,.p β5 (.slice (.int .i64)) p6,.p β6 (.slice (.prod (.int .u8) Y1)) p7,.p β7 (.slice .str) p8,.p β8 (.slice (.int .u32)) p9,.i64 p10,.i64 p11,.i64 p12,.i64 p13] 0,.st s1] (c9 (gJ false [⟨(.int .i64),res⟩])):=by
 refine Pure.of_body bL Try.func56 (by kernel_rfl) rfl (nl rfl) (fun Bw w0=> ?_) rfl
 unfold iR at h
 refine G (aD (G (aK (n0 h (fun i2=>aQ [(0,.fad true [.st p1,.i64 p2,.p β2 (.slice .str) p3,.u32 p4,.u32 p5,.p β5 (.slice (.int .i64)) p6,.p β6 (.slice (.prod (.int .u8) Y1)) p7,.p β7 (.slice .str) p8,.p β8 (.slice (.int .u32)) p9,.i64 p10,.i64 p11,.i64 p12,.i64 p13] 0),(1,.st s1),(5,.i64 i2)] [] 0) (fT (gR Try.f56.ntmps 0 (fun _=>aQ [] [] 0)) (tR tb Try.f56.results.toList (fun r1=>[⟨(.int .i64),r1⟩]))) (gg [] []) (fun i2 o h=> ?_) (fun r2 h e σ' hq=> ?_)))))
 ·unfold cJ at h
  refine aD (G (aU h (fun hb5 h=> ?_) (fun hb5 h=> ?_)))
  ·refine aC (aA (aD (aK (GC 5 h (fun h=>aU h (fun hb6 h=> ?_) (fun hb6 h=> ?_))))))
   ·refine G (aN ?_)
    obtain rfl:=sI h
    refine aM (aG (dX (aS ?_)))
    exact lN (aT [(.int .i64)] (by kernel_rfl))
   refine aC (aO (aA (Ge ?_)))
   exact eB h (gg [] [])
  refine bA (eL ?_)
  obtain rfl:=sI h
  refine fV (cX ?_)
  exact dB (gg [] [])
 rcases r2 with _ | r1
 ·obtain⟨rfl,hle⟩:=hq
  refine fL ?_ hle
  refine bB (aA (G (aN ?_)))
  obtain rfl:=sI h
  exact aT [(.int .i64)] (by kernel_rfl)
 obtain⟨rfl,hr⟩:=hq
 refine aM (aG ?_)
 obtain rfl:=sI h
 exact hr
def eV(p1:List UInt8)(p2 p3 p4 p5 p6 p7 p8:Int)(o1:List (List UInt8))(o2:List Int)(o3:List (Int×Tree×Tree))(o4:List (List UInt8))(o5:List Int):Option ((List UInt8)×Int×Int×Int×Int) :=
 ((cZ p1 p2 p3 p4 p5 p6 p7 p8 o1 o2 o3 o4 o5).bind fun(r30,r31,r32,r33,r34) =>
 (((if(r33 == (0:Int))=true then((iR p1 r32 o1 p3 p4 o2 o3 o4 o5 p5 p6 r33 r34 r30).bind fun r37 =>
 some ((decide (r37≥(0:Int)))))
 else some (false))).bind fun v7=>(((if v7=true then((cE (23:Int) r31 p1 r32 p3 p4 p5 p6 r33 r34 o1 o2 o3 o4 o5).bind fun(r44,r45) =>
 some ((r44,r45)))
 else some ((r33,r34)))).bind fun(v8,v9)=>some (r30,r31,r32,v8,v9))))
theorem nJ{p1:List UInt8}{p2:Int}{p3:Int}{p4:Int}{p5:Int}{p6:Int}{p7:Int}{p8:Int}{o1:List (List UInt8)}{o2:List Int}{o3:List (Int×Tree×Tree)}{o4:List (List UInt8)}{o5:List Int}{res:(List UInt8)×Int×Int×Int×Int}(h:eV p1 p2 p3 p4 p5 p6 p7 p8 o1 o2 o3 o4 o5=some res):
  Owns Try.prog 40 [.adr 0 0 13 0] (bJ p1 p2 p3 p4 p5 p6 p7 p8 o1 o2 o3 o4 o5) (.tup [.st res.1,.i64 res.2.1]) (bJ p1 res.2.2.1 p3 p4 p5 p6 res.2.2.2.1 res.2.2.2.2 o1 o2 o3 o4 o5):=by
 refine Owns.of_body bL Try.func40 (by kernel_rfl) rfl (nl rfl) (fun Bw w0=> ?_)
 unfold eV at h
 refine G ?_
 obtain⟨⟨r30,r31,r32,r33,r34⟩,q11,h⟩:=aB h
 refine GO 1 [0,1,2,3,4,5] (iT q11) (aD (aD (eM h (fun v7=>aQ [(0,.adr 0 0 13 0),(4,.st r30),(5,.i64 r31),(21,.bo v7)] (bJ p1 r32 p3 p4 p5 p6 r33 r34 o1 o2 o3 o4 o5) 6 6) (fun v7 h=> ?_) (fun v7 h=> ?_))))
 ·rcases aW h with⟨hb8,h⟩ | ⟨hb8,h⟩
  ·obtain⟨r37,q14,h⟩:=aB h
   have u_1:=(pB true true true true true q14)
   refine dT ⟨[(5,true),(10,true)],[(8,(oP u_1))]⟩ [(6,7,an hb8),(8,8,oc (And.intro hb8 u_1)),(9,9,an hb8),(10,10,oc hb8)] ?_
   exact eN h (gg [] [0,1,2,3,4,5])
  refine dT ⟨[(5,false),(10,false)],[]⟩ [(6,10,oc hb8)] ?_
  exact eN h (gg [] [0,1,2,3,4,5])
 refine aA (eM h (fun(v8,v9)=>aQ [(4,.st r30),(5,.i64 r31)] (bJ p1 r32 p3 p4 p5 p6 v8 v9 o1 o2 o3 o4 o5) 6 6) (fun r46 h=> ?_) (fun r46 h=> ?_))
 ·refine aU h (fun hb10 h=> ?_) (fun hb10 h=> ?_)
  ·obtain⟨⟨r44,r45⟩,q18,h⟩:=aB h
   refine jH 2 [0,1,2,3,4,5] (cR q18) ?_
   exact eN h (gg [] [0,1,2,3,4,5])
  refine aC ?_
  exact eN h (gg [] [0,1,2,3,4,5])
 obtain⟨v8,v9⟩:=r46
 refine aA (G (aN ?_))
 obtain rfl:=sI h
 exact aE [some .str,some (.int .i64)] [] [0,1,2,3,4,5] [(2,.st r30),(3,.i64 r31)] (bJ p1 r32 p3 p4 p5 p6 v8 v9 o1 o2 o3 o4 o5) 6 6 (by kernel_rfl) (by kernel_rfl) (by kernel_rfl)
def fH(w1:List UInt8)(bits1:Int)(p1:List UInt8)(p2 p3 p4 p5 p6 p7 p8:Int)(o1:List (List UInt8))(o2:List Int)(o3:List (Int×Tree×Tree))(o4:List (List UInt8))(o5:List Int):Option ((List (List UInt8))×List Int) :=
 (if(o4.length+([w1]:List (List UInt8)).length)*16≤140737488355328∧o4.length+([w1]:List (List UInt8)).length≤9223372036854775807 then(if(o5.length+([bits1]:List Int).length)*4≤140737488355328∧o5.length+([bits1]:List Int).length≤9223372036854775807 then some ((o4++([w1]:List (List UInt8))),(o5++([bits1]:List Int)))else none)else none)
theorem lM{w1:List UInt8}{bits1:Int}{p1:List UInt8}{p2:Int}{p3:Int}{p4:Int}{p5:Int}{p6:Int}{p7:Int}{p8:Int}{o1:List (List UInt8)}{o2:List Int}{o3:List (Int×Tree×Tree)}{o4:List (List UInt8)}{o5:List Int}{res:(List (List UInt8))×List Int}(h:fH w1 bits1 p1 p2 p3 p4 p5 p6 p7 p8 o1 o2 o3 o4 o5=some res):
  Owns Try.prog 41 [.adr 0 0 13 0,.st w1,.u32 bits1] (bJ p1 p2 p3 p4 p5 p6 p7 p8 o1 o2 o3 o4 o5) (.tup []) (aBM p1 p2 p3 p4 p5 p6 p7 p8 o1 o2 o3 res.1 res.2):=by
 refine Owns.of_body bL Try.func41 (by kernel_rfl) rfl (nl rfl) (fun Bw w0=> ?_)
 unfold fH at h
 refine GC 7 h (fun h=>GCe 7 h (fun h=> ?_))
 obtain rfl:=sI h
 exact(aE [] [] [0,1,2,3,4,5,62,150] [] (aBM p1 p2 p3 p4 p5 p6 p7 p8 o1 o2 o3 (o4++([w1]:List (List UInt8))) (o5++([bits1]:List Int))) 8 6 (by kernel_rfl) (by kernel_rfl) (by kernel_rfl)).normal
def dG(c1:Int)(p1:List UInt8)(p2 p3 p4 p5 p6 p7 p8:Int)(o1:List (List UInt8))(o2:List Int)(o3:List (Int×Tree×Tree))(o4:List (List UInt8))(o5:List Int):Option (Int×Int×Int) :=
 ((aH c1 p1 p2 p3 p4 p5 p6 p7 p8 o1 o2 o3 o4 o5).bind fun(r22,r23,r24,r25) =>
 (((if(!r22)=true then((cE (21:Int) r23 p1 r23 p3 p4 p5 p6 r24 r25 o1 o2 o3 o4 o5).bind fun(r32,r33) =>
 some ((r32,r33)))
 else some ((r24,r25)))).bind fun(v6,v7)=>some (r23,v6,v7)))
theorem fI{c1:Int}{p1:List UInt8}{p2:Int}{p3:Int}{p4:Int}{p5:Int}{p6:Int}{p7:Int}{p8:Int}{o1:List (List UInt8)}{o2:List Int}{o3:List (Int×Tree×Tree)}{o4:List (List UInt8)}{o5:List Int}{res:Int×Int×Int}(h:dG c1 p1 p2 p3 p4 p5 p6 p7 p8 o1 o2 o3 o4 o5=some res):
  Owns Try.prog 42 [.adr 0 0 13 0,.u8 c1] (bJ p1 p2 p3 p4 p5 p6 p7 p8 o1 o2 o3 o4 o5) (.tup []) (bJ p1 res.1 p3 p4 p5 p6 res.2.1 res.2.2 o1 o2 o3 o4 o5):=by
 refine Owns.of_body bL Try.func42 (by kernel_rfl) rfl (nl rfl) (fun Bw w0=> ?_)
 unfold dG at h
 obtain⟨⟨r22,r23,r24,r25⟩,q8,h⟩:=aB h
 refine GO 2 [0,1,2,3,4,5] (b8 q8) (eM h (fun(v6,v7)=>aQ [] (bJ p1 r23 p3 p4 p5 p6 v6 v7 o1 o2 o3 o4 o5) 6 6) (fun r34 h=> ?_) (fun r34 h=> ?_))
 ·refine aU h (fun hb4 h=> ?_) (fun hb4 h=> ?_)
  ·obtain⟨⟨r32,r33⟩,q12,h⟩:=aB h
   refine jH 5 [0,1,2,3,4,5] (cR q12) ?_
   exact eN h (gg [] [0,1,2,3,4,5])
  refine aC ?_
  exact eN h (gg [] [0,1,2,3,4,5])
 obtain⟨v6,v7⟩:=r34
 obtain rfl:=sI h
 exact(aE [] [] [0,1,2,3,4,5] [] (bJ p1 r23 p3 p4 p5 p6 v6 v7 o1 o2 o3 o4 o5) 6 6 (by kernel_rfl) (by kernel_rfl) (by kernel_rfl)).normal
def eU(p1:List UInt8)(p2 p3 p4 p5 p6 p7 p8:Int)(o1:List (List UInt8))(o2:List Int)(o3:List (Int×Tree×Tree))(o4:List (List UInt8))(o5:List Int):Option (Int×Int×Int×Int) :=
 ((cZ p1 p2 p3 p4 p5 p6 p7 p8 o1 o2 o3 o4 o5).bind fun(r23,r24,r25,r26,r27) =>
 (if(r26 != (0:Int))=true then some ((0:Int),r25,r26,r27)
 else((iR p1 r25 o1 p3 p4 o2 o3 o4 o5 p5 p6 r26 r27 r23).bind fun r29 =>
 (if(decide (r29<(0:Int)))=true then((cE (22:Int) r24 p1 r25 p3 p4 p5 p6 r26 r27 o1 o2 o3 o4 o5).bind fun(r32,r33) =>
 some ((0:Int),r25,r32,r33))
 else(if 0≤r29∧r29<(o5.length:Int)then(if r29.toNat<o5.length then some ((o5.getD r29.toNat (0:Int)),r25,r26,r27)else none)else none)))))
theorem oI{p1:List UInt8}{p2:Int}{p3:Int}{p4:Int}{p5:Int}{p6:Int}{p7:Int}{p8:Int}{o1:List (List UInt8)}{o2:List Int}{o3:List (Int×Tree×Tree)}{o4:List (List UInt8)}{o5:List Int}{res:Int×Int×Int×Int}(h:eU p1 p2 p3 p4 p5 p6 p7 p8 o1 o2 o3 o4 o5=some res):
  Owns Try.prog 57 [.adr 0 0 13 0] (bJ p1 p2 p3 p4 p5 p6 p7 p8 o1 o2 o3 o4 o5) (.u32 res.1) (bJ p1 res.2.1 p3 p4 p5 p6 res.2.2.1 res.2.2.2 o1 o2 o3 o4 o5):=by
 refine Owns.of_body bL Try.func57 (by kernel_rfl) rfl (nl rfl) (fun Bw w0=> ?_)
 unfold eU at h
 refine G ?_
 obtain⟨⟨r23,r24,r25,r26,r27⟩,q8,h⟩:=aB h
 refine GO 1 [0,1,2,3,4,5] (iT q8) (aD (G (aU h (fun hb3 h=> ?_) (fun hb3 h=> ?_))))
 ·refine G (aN (aG ?_))
  obtain rfl:=sI h
  exact aE [some (.int .u32)] [] [0,1,2,3,4,5] [(2,.u32 (0:Int))] (bJ p1 r25 p3 p4 p5 p6 r26 r27 o1 o2 o3 o4 o5) 6 6 (by kernel_rfl) (by kernel_rfl) (by kernel_rfl)
 refine aC (aA ?_)
 obtain⟨r29,q10,h⟩:=aB h
 refine GP 2 (pB true true true true true q10) (aD (G (aU h (fun hb4 h=> ?_) (fun hb4 h=> ?_))))
 ·obtain⟨⟨r32,r33⟩,q12,h⟩:=aB h
  refine GO 2 [0,1,2,3,4,5] (cR q12) (G (aN (aG ?_)))
  obtain rfl:=sI h
  exact aE [some (.int .u32)] [] [0,1,2,3,4,5] [(2,.u32 (0:Int))] (bJ p1 r25 p3 p4 p5 p6 r32 r33 o1 o2 o3 o4 o5) 6 6 (by kernel_rfl) (by kernel_rfl) (by kernel_rfl)
 refine aC (aA ?_)
 obtain⟨c7,c8,h⟩:=g2 h
 refine GN a0 [(5,5,oc c7),(6,6,oc c8)] (aN ?_)
 obtain rfl:=sI h
 exact aE [some (.int .u32)] [] [0,1,2,3,4,5] [(2,.u32 (o5.getD r29.toNat (0:Int)))] (bJ p1 r25 p3 p4 p5 p6 r26 r27 o1 o2 o3 o4 o5) 6 6 (by kernel_rfl) (by kernel_rfl) (by kernel_rfl)
def bQ(end1:Int)(p1:List UInt8)(p3 p4 p5 p6:Int)(o1:List (List UInt8))(o2:List Int)(o3:List (Int×Tree×Tree))(o4:List (List UInt8))(o5:List Int):(Int×Int×Int×Int)→Option ((Int×Int×Int×Int)⊕(Int×Int×Int×Int)):=fun(p33,p34,p35,out5) =>
 (((if(p34 == (0:Int))=true then((aH end1 p1 p33 p3 p4 p5 p6 p34 p35 o1 o2 o3 o4 o5).bind fun(r116,r117,r118,r119) =>
 some ((r117,r118,r119,(!r116))))
 else some ((p33,p34,p35,false)))).bind fun(p36,p37,p38,v15)=>(if v15=true then((eU p1 p36 p3 p4 p5 p6 p37 p38 o1 o2 o3 o4 o5).bind fun(r125,r126,r127,r128) =>
 some (Sum.inl (r126,r127,r128,(bY .or .u32 out5 r125))))
 else some (Sum.inr (out5,p36,p37,p38))))
def eK(end1:Int)(p1:List UInt8)(p2 p3 p4 p5 p6 p7 p8:Int)(o1:List (List UInt8))(o2:List Int)(o3:List (Int×Tree×Tree))(o4:List (List UInt8))(o5:List Int):Option (Int×Int×Int×Int) :=
 ((iter (bQ end1 p1 p3 p4 p5 p6 o1 o2 o3 o4 o5) (p2,p7,p8,(0:Int))).bind fun(out6,v12,v13,v14)=>some (out6,v12,v13,v14))
theorem i7{end1:Int}{p1:List UInt8}{p2:Int}{p3:Int}{p4:Int}{p5:Int}{p6:Int}{p7:Int}{p8:Int}{o1:List (List UInt8)}{o2:List Int}{o3:List (Int×Tree×Tree)}{o4:List (List UInt8)}{o5:List Int}{res:Int×Int×Int×Int}(h:eK end1 p1 p2 p3 p4 p5 p6 p7 p8 o1 o2 o3 o4 o5=some res):
  Owns Try.prog 43 [.adr 0 0 13 0,.u8 end1] (bJ p1 p2 p3 p4 p5 p6 p7 p8 o1 o2 o3 o4 o5) (.u32 res.1) (bJ p1 res.2.1 p3 p4 p5 p6 res.2.2.1 res.2.2.2 o1 o2 o3 o4 o5):=by
 refine Owns.of_body bL Try.func43 (by kernel_rfl) rfl (nl rfl) (fun Bw w0=> ?_)
 unfold eK at h
 refine G (G (aD (aK (t7 h (fun(p33,p34,p35,out5)=>aQ [(0,.adr 0 0 13 0),(1,.u8 end1),(5,.u32 out5)] (bJ p1 p33 p3 p4 p5 p6 p34 p35 o1 o2 o3 o4 o5) 6 6) 0 (fun(out6,v12,v13,v14)=>aQ [(5,.u32 out6)] (bJ p1 v12 p3 p4 p5 p6 v13 v14 o1 o2 o3 o4 o5) 6 6) (gg [] [0,1,2,3,4,5]) (fun y o h=> ?_) (fun r129 h=> ?_)))))
 ·obtain⟨p33,p34,p35,out5⟩:=y
  unfold bQ at h
  refine aD (aD (eM h (fun(p36,p37,p38,v15)=>aQ [(0,.adr 0 0 13 0),(1,.u8 end1),(5,.u32 out5),(17,.bo v15)] (bJ p1 p36 p3 p4 p5 p6 p37 p38 o1 o2 o3 o4 o5) 6 6) (fun r120 h=> ?_) (fun r120 h=> ?_)))
  ·rcases aW h with⟨hb23,h⟩ | ⟨hb23,h⟩
   ·obtain⟨⟨r116,r117,r118,r119⟩,q28,h⟩:=aB h
    have u_1:=(b8 q28)
    refine dT ⟨[(5,true),(10,true)],[(8,(oO u_1 [0,1,2,3,4,5]))]⟩ [(6,7,an hb23),(8,8,oc (And.intro hb23 u_1)),(9,9,an hb23),(10,10,oc hb23)] ?_
    exact eN h (gg [] [0,1,2,3,4,5])
   refine dT ⟨[(5,false),(10,false)],[]⟩ [(6,10,oc hb23)] ?_
   exact eN h (gg [] [0,1,2,3,4,5])
  obtain⟨p36,p37,p38,v15⟩:=r120
  refine aA (aU h (fun hb24 h=> ?_) (fun hb24 h=> ?_))
  ·refine aC (aA (aK ?_))
   obtain⟨⟨r125,r126,r127,r128⟩,q30,h⟩:=aB h
   refine GO 1 [0,1,2,3,4,5] (oI q30) (Ge (aO ?_))
   exact eB h (gg [] [0,1,2,3,4,5])
  refine bA (eL ?_)
  exact eX h (gg [] [0,1,2,3,4,5])
 obtain⟨out6,v12,v13,v14⟩:=r129
 refine bB (aA (G (aN ?_)))
 obtain rfl:=sI h
 exact aE [some (.int .u32)] [] [0,1,2,3,4,5] [(4,.u32 out6)] (bJ p1 v12 p3 p4 p5 p6 v13 v14 o1 o2 o3 o4 o5) 6 6 (by kernel_rfl) (by kernel_rfl) (by kernel_rfl)
def bN(o1:List (List UInt8))(r22:List UInt8)(r24 r25 r26:Int):(Int)→Option ((Int)⊕((Unit)⊕(Int×Int×Int×Int))):=fun i4 =>
 (((if(decide (i4<(o1.length:Int)))=true then some ((r25 == (0:Int)))
 else some (false))).bind fun v9=>(if v9=true then(if 0≤i4∧i4<(o1.length:Int)then(if i4.toNat<o1.length then(if((o1.getD i4.toNat ([]:List UInt8)) == r22)=true then some (Sum.inr (Sum.inr (i4,r24,r25,r26)))
 else some (Sum.inl (IntKind.i64.wrap (i4+(1:Int)))))else none)else none)
 else some (Sum.inr (Sum.inl ()))))
def eW(p1:List UInt8)(p2 p3 p4 p5 p6 p7 p8:Int)(o1:List (List UInt8))(o2:List Int)(o3:List (Int×Tree×Tree))(o4:List (List UInt8))(o5:List Int):Option (Int×Int×Int×Int) :=
 ((cZ p1 p2 p3 p4 p5 p6 p7 p8 o1 o2 o3 o4 o5).bind fun(r22,r23,r24,r25,r26) =>
 ((iter (bN o1 r22 r24 r25 r26) (0:Int)).bind fun(r31:((Unit)⊕(Int×Int×Int×Int)))=>match r31 with
 | .inl _=>((cE (22:Int) r23 p1 r24 p3 p4 p5 p6 r25 r26 o1 o2 o3 o4 o5).bind fun(r34,r35) =>
 some ((0:Int),r24,r34,r35))
 | .inr ((r27,r28,r29,r30))=>some (r27,r28,r29,r30)))
theorem oB{p1:List UInt8}{p2:Int}{p3:Int}{p4:Int}{p5:Int}{p6:Int}{p7:Int}{p8:Int}{o1:List (List UInt8)}{o2:List Int}{o3:List (Int×Tree×Tree)}{o4:List (List UInt8)}{o5:List Int}{res:Int×Int×Int×Int}(h:eW p1 p2 p3 p4 p5 p6 p7 p8 o1 o2 o3 o4 o5=some res):
  Owns Try.prog 44 [.adr 0 0 13 0] (bJ p1 p2 p3 p4 p5 p6 p7 p8 o1 o2 o3 o4 o5) (.i64 res.1) (bJ p1 res.2.1 p3 p4 p5 p6 res.2.2.1 res.2.2.2 o1 o2 o3 o4 o5):=by
 refine Owns.of_body bL Try.func44 (by kernel_rfl) rfl (nl rfl) (fun Bw w0=> ?_)
 unfold eW at h
 refine G ?_
 obtain⟨⟨r22,r23,r24,r25,r26⟩,q6,h⟩:=aB h
 refine GO 1 [0,1,2,3,4,5] (iT q6) (aD (G (aK (n0 h (fun i4=>aQ [(0,.adr 0 0 13 0),(3,.st r22),(4,.i64 r23),(5,.i64 i4)] (bJ p1 r24 p3 p4 p5 p6 r25 r26 o1 o2 o3 o4 o5) 6 6) (fT (gR Try.f44.ntmps 0 (fun _=>aQ [(0,.adr 0 0 13 0),(4,.i64 r23)] (bJ p1 r24 p3 p4 p5 p6 r25 r26 o1 o2 o3 o4 o5) 6 6)) (sV tb Try.f44.ntmps Try.f44.results.toList (fun(r27,r28,r29,r30)=>(.i64 r27,(bJ p1 r28 p3 p4 p5 p6 r29 r30 o1 o2 o3 o4 o5))))) (gg [] [0,1,2,3,4,5]) (fun i4 o h=> ?_) (fun r31 h e σ' hq=> ?_)))))
 ·unfold bN at h
  refine aD (aD (eM h (fun v9=>aQ [(0,.adr 0 0 13 0),(3,.st r22),(4,.i64 r23),(5,.i64 i4),(25,.bo v9)] (bJ p1 r24 p3 p4 p5 p6 r25 r26 o1 o2 o3 o4 o5) 6 6) (fun v9 h=> ?_) (fun v9 h=> ?_)))
  ·rcases aW h with⟨hb28,h⟩ | ⟨hb28,h⟩
   ·refine dT ⟨[(8,true),(14,true)],[]⟩ [(9,13,an hb28),(14,14,oc hb28)] ?_
    exact eN h (gg [] [0,1,2,3,4,5])
   refine dT ⟨[(8,false),(14,false)],[]⟩ [(9,14,oc hb28)] ?_
   exact eN h (gg [] [0,1,2,3,4,5])
  refine aA (aU h (fun hb29 h=> ?_) (fun hb29 h=> ?_))
  ·refine aC (aA (aD (aK ?_)))
   obtain⟨c23,c24,h⟩:=g2 h
   refine GN a0 [(6,6,oc c23),(7,7,oc c24)] (aU h (fun hb30 h=> ?_) (fun hb30 h=> ?_))
   ·refine G (aN ?_)
    obtain rfl:=sI h
    refine aM (aG (dX (aS ?_)))
    exact j7 (aE [some (.int .i64)] [] [0,1,2,3,4,5] [(2,.i64 i4)] (bJ p1 r24 p3 p4 p5 p6 r25 r26 o1 o2 o3 o4 o5) 6 6 (by kernel_rfl) (by kernel_rfl) (by kernel_rfl))
   refine aC (aO (aA (Ge ?_)))
   exact eB h (gg [] [0,1,2,3,4,5])
  refine bA (eL ?_)
  obtain rfl:=sI h
  refine fV (cX ?_)
  exact dB (gg [] [0,1,2,3,4,5])
 rcases r31 with _ | ⟨r27,r28,r29,r30⟩
 ·obtain⟨rfl,hle⟩:=hq
  refine fL ?_ hle
  refine bB (aA ?_)
  obtain⟨⟨r34,r35⟩,q8,h⟩:=aB h
  refine GO 2 [0,1,2,3,4,5] (cR q8) (G (aN ?_))
  obtain rfl:=sI h
  exact aE [some (.int .i64)] [] [0,1,2,3,4,5] [(2,.i64 (0:Int))] (bJ p1 r24 p3 p4 p5 p6 r34 r35 o1 o2 o3 o4 o5) 6 6 (by kernel_rfl) (by kernel_rfl) (by kernel_rfl)
 obtain⟨rfl,hr⟩:=hq
 refine aM (aG ?_)
 obtain rfl:=sI h
 exact hr
def gV(p1:List UInt8)(p2:Int)(p3:List (List UInt8))(p4 p5:Int)(p6:List Int)(p7:List (Int×Tree×Tree))(p8:List (List UInt8))(p9:List Int)(p10 p11 p12 p13:Int):Option (Int) :=
 (if 0≤(p3.length:Int)then some (IntKind.u32.wrap ((IntKind.u32.wrap ((1:Int)*2 ^ (min (p3.length:Int).toNat IntKind.u32.bits))) - (1:Int)))else none)
theorem oJ(β2 β5 β6 β7 β8:Bool){p1:List UInt8}{p2:Int}{p3:List (List UInt8)}{p4:Int}{p5:Int}{p6:List Int}{p7:List (Int×Tree×Tree)}{p8:List (List UInt8)}{p9:List Int}{p10:Int}{p11:Int}{p12:Int}{p13:Int}{res:Int}(h:gV p1 p2 p3 p4 p5 p6 p7 p8 p9 p10 p11 p12 p13=some res):
  Pure Try.prog 68 [.fad true [.st p1,.i64 p2,.p β2 (.slice .str) p3,.u32 p4,.u32 p5,.p β5 (.slice (.int .i64)) p6,.p β6 (.slice (.prod (.int .u8) Y1)) p7,.p β7 (.slice .str) p8,.p β8 (.slice (.int .u32)) p9,.i64 p10,.i64 p11,.i64 p12,.i64 p13] 0] (c9 (gJ false [⟨(.int .u32),res⟩])):=by
 refine Pure.of_body bL Try.func68 (by kernel_rfl) rfl (nl rfl) (fun Bw w0=> ?_) rfl
 unfold gV at h
 refine G (GC 6 h (fun h=>aN ?_))
 obtain rfl:=sI h
 exact aT [(.int .u32)] (by kernel_rfl)
def jJ(rec_rq_either_v3:(List UInt8)→Int→Int→Int→Int→Int→Int→Int→(List (List UInt8))→(List Int)→(List (Int×Tree×Tree))→(List (List UInt8))→(List Int)→Option (Tree×Int×Int×Int×Int×Int))(d1:List UInt8)(d2 d3 d4 d5 d6 d7 d8:Int)(o1:List (List UInt8))(o2:List Int)(o3:List (Int×Tree×Tree))(o4:List (List UInt8))(o5:List Int):Option (Tree×Int×Int×Int×Int×Int) :=
 ((aH (40:Int) d1 d2 d3 d4 d5 d6 d7 d8 o1 o2 o3 o4 o5).bind fun(r86,r87,r88,r89) =>
 (if r86=true then(if(decide ((IntKind.i64.wrap (d6+(1:Int))) > (16:Int)))=true then((cE (25:Int) d2 d1 r87 d3 d4 d5 (IntKind.i64.wrap (d6+(1:Int))) r88 r89 o1 o2 o3 o4 o5).bind fun(r92,r93) =>
 some ((Tree.node (0:Int) (0:Int) ([]:List Tree)),r87,d5,(IntKind.i64.wrap (d6+(1:Int))),r92,r93))
 else((rec_rq_either_v3 d1 r87 d3 d4 d5 (IntKind.i64.wrap (d6+(1:Int))) r88 r89 o1 o2 o3 o4 o5).bind fun(r100,r101,r102,r103,r104,r105) =>
 ((dG (41:Int) d1 r101 d3 d4 r102 r103 r104 r105 o1 o2 o3 o4 o5).bind fun(r109,r110,r111) =>
 some ((Tree.node r100.op r100.set r100.kids),r109,r102,(IntKind.i64.wrap (r103 - (1:Int))),r110,r111))))
 else(if(decide ((IntKind.i64.wrap (d5+(1:Int))) > (200:Int)))=true then((cE (26:Int) d2 d1 r87 d3 d4 (IntKind.i64.wrap (d5+(1:Int))) d6 r88 r89 o1 o2 o3 o4 o5).bind fun(r114,r115) =>
 some ((Tree.node (0:Int) (0:Int) ([]:List Tree)),r87,(IntKind.i64.wrap (d5+(1:Int))),d6,r114,r115))
 else((aH (46:Int) d1 r87 d3 d4 (IntKind.i64.wrap (d5+(1:Int))) d6 r88 r89 o1 o2 o3 o4 o5).bind fun(r120,r121,r122,r123) =>
 (if r120=true then((gV d1 r121 o1 d3 d4 o2 o3 o4 o5 (IntKind.i64.wrap (d5+(1:Int))) d6 r122 r123).bind fun r125 =>
 some ((Tree.node (1:Int) r125 ([]:List Tree)),r121,(IntKind.i64.wrap (d5+(1:Int))),d6,r122,r123))
 else((aH (91:Int) d1 r121 d3 d4 (IntKind.i64.wrap (d5+(1:Int))) d6 r122 r123 o1 o2 o3 o4 o5).bind fun(r130,r131,r132,r133) =>
 (if r130=true then((aH (94:Int) d1 r131 d3 d4 (IntKind.i64.wrap (d5+(1:Int))) d6 r132 r133 o1 o2 o3 o4 o5).bind fun(r138,r139,r140,r141) =>
 ((eK (93:Int) d1 r139 d3 d4 (IntKind.i64.wrap (d5+(1:Int))) d6 r140 r141 o1 o2 o3 o4 o5).bind fun(r146,r147,r148,r149) =>
 (((if r138=true then((gV d1 r147 o1 d3 d4 o2 o3 o4 o5 (IntKind.i64.wrap (d5+(1:Int))) d6 r148 r149).bind fun r153 =>
 some ((bY .andNot .u32 r153 r146)))
 else some (r146))).bind fun v7=>some ((Tree.node (1:Int) v7 ([]:List Tree)),r147,(IntKind.i64.wrap (d5+(1:Int))),d6,r148,r149))))
 else((eU d1 r131 d3 d4 (IntKind.i64.wrap (d5+(1:Int))) d6 r132 r133 o1 o2 o3 o4 o5).bind fun(r158,r159,r160,r161) =>
 some ((Tree.node (1:Int) r158 ([]:List Tree)),r159,(IntKind.i64.wrap (d5+(1:Int))),d6,r160,r161)))))))))
theorem vR(rec_rq_either_v3:(List UInt8)→Int→Int→Int→Int→Int→Int→Int→(List (List UInt8))→(List Int)→(List (Int×Tree×Tree))→(List (List UInt8))→(List Int)→Option (Tree×Int×Int×Int×Int×Int))(hrec_rq_either_v3:∀ {p1:List UInt8} {p2:Int} {p3:Int} {p4:Int} {p5:Int} {p6:Int} {p7:Int} {p8:Int} {o1:List (List UInt8)} {o2:List Int} {o3:List (Int×Tree×Tree)} {o4:List (List UInt8)} {o5:List Int} {res:Tree×Int×Int×Int×Int×Int},rec_rq_either_v3 p1 p2 p3 p4 p5 p6 p7 p8 o1 o2 o3 o4 o5=some res→Owns Try.prog 58 [.adr 0 0 13 0] (bJ p1 p2 p3 p4 p5 p6 p7 p8 o1 o2 o3 o4 o5) (.agg [.u8 res.1.op,.u32 res.1.set,.p false (.slice (.tree .u8 .u32)) res.1.kids]) (bJ p1 res.2.1 p3 p4 res.2.2.1 res.2.2.2.1 res.2.2.2.2.1 res.2.2.2.2.2 o1 o2 o3 o4 o5)){d1:List UInt8}{d2:Int}{d3:Int}{d4:Int}{d5:Int}{d6:Int}{d7:Int}{d8:Int}{o1:List (List UInt8)}{o2:List Int}{o3:List (Int×Tree×Tree)}{o4:List (List UInt8)}{o5:List Int}{res:Tree×Int×Int×Int×Int×Int}(h:jJ rec_rq_either_v3 d1 d2 d3 d4 d5 d6 d7 d8 o1 o2 o3 o4 o5=some res):
  Owns Try.prog 66 [.adr 0 0 13 0] (bJ d1 d2 d3 d4 d5 d6 d7 d8 o1 o2 o3 o4 o5) (.agg [.u8 res.1.op,.u32 res.1.set,.p false (.slice (.tree .u8 .u32)) res.1.kids]) (bJ d1 res.2.1 d3 d4 res.2.2.1 res.2.2.2.1 res.2.2.2.2.1 res.2.2.2.2.2 o1 o2 o3 o4 o5):=by
 refine Owns.of_body bL Try.func66 (by kernel_rfl) rfl (nl rfl) (fun Bw w0=> ?_)
 unfold jJ at h
 refine G (G (aD ?_))
 obtain⟨⟨r86,r87,r88,r89⟩,q28,h⟩:=aB h
 refine GO 1 [0,1,2,3,4,5] (b8 q28) (aU h (fun hb8 h=> ?_) (fun hb8 h=> ?_))
 ·refine G (aD (G (aU h (fun hb9 h=> ?_) (fun hb9 h=> ?_))))
  ·obtain⟨⟨r92,r93⟩,q30,h⟩:=aB h
   refine GO 2 [0,1,2,3,4,5] (cR q30) (G (aN (aG (aG ?_))))
   obtain rfl:=sI h
   exact aE [some (.tree .u8 .u32)] [] [0,1,2,3,4,5,6] [(2,.adr 6 0 3 0)] (H7 d1 r87 d3 d4 d5 (IntKind.i64.wrap (d6+(1:Int))) r92 r93 o1 o2 o3 o4 o5 (0:Int) (0:Int)) 7 6 (by kernel_rfl) (by kernel_rfl) (by kernel_rfl)
  refine aC (aA ?_)
  obtain⟨⟨r100,r101,r102,r103,r104,r105⟩,q32,h⟩:=aB h
  refine GO 1 [0,1,2,3,4,5] (hrec_rq_either_v3 q32) ?_
  obtain⟨⟨r109,r110,r111⟩,q34,h⟩:=aB h
  refine GO 1 [0,1,2,3,4,5] (fI q34) (G (G (aN (aG ?_))))
  obtain rfl:=sI h
  exact aE [some (.tree .u8 .u32)] [] [0,1,2,3,4,5,6] [(2,.adr 6 0 3 0)] (aBp d1 r109 d3 d4 r102 (IntKind.i64.wrap (r103 - (1:Int))) r110 r111 o1 o2 o3 o4 o5 r100.op r100.set r100.kids) 7 6 (by kernel_rfl) (by kernel_rfl) (by kernel_rfl)
 refine aC (aA (G (aD (G (aU h (fun hb10 h=> ?_) (fun hb10 h=> ?_))))))
 ·obtain⟨⟨r114,r115⟩,q36,h⟩:=aB h
  refine GO 2 [0,1,2,3,4,5] (cR q36) (G (aN (aG ?_)))
  obtain rfl:=sI h
  exact aE [some (.tree .u8 .u32)] [] [0,1,2,3,4,5,6] [(2,.adr 6 0 3 0)] (H7 d1 r87 d3 d4 (IntKind.i64.wrap (d5+(1:Int))) d6 r114 r115 o1 o2 o3 o4 o5 (0:Int) (0:Int)) 7 6 (by kernel_rfl) (by kernel_rfl) (by kernel_rfl)
 refine aC (aA (aD ?_))
 obtain⟨⟨r120,r121,r122,r123⟩,q38,h⟩:=aB h
 refine GO 1 [0,1,2,3,4,5] (b8 q38) (aU h (fun hb11 h=> ?_) (fun hb11 h=> ?_))
 ·obtain⟨r125,q40,h⟩:=aB h
  refine GP 1 (oJ true true true true true q40) (aN (aG ?_))
  obtain rfl:=sI h
  exact aE [some (.tree .u8 .u32)] [] [0,1,2,3,4,5,6] [(2,.adr 6 0 3 0)] (H7 d1 r121 d3 d4 (IntKind.i64.wrap (d5+(1:Int))) d6 r122 r123 o1 o2 o3 o4 o5 (1:Int) r125) 7 6 (by kernel_rfl) (by kernel_rfl) (by kernel_rfl)
 refine aC (aA (aD ?_))
 obtain⟨⟨r130,r131,r132,r133⟩,q42,h⟩:=aB h
 refine GO 1 [0,1,2,3,4,5] (b8 q42) (aU h (fun hb12 h=> ?_) (fun hb12 h=> ?_))
 ·obtain⟨⟨r138,r139,r140,r141⟩,q44,h⟩:=aB h
  refine GO 1 [0,1,2,3,4,5] (b8 q44) ?_
  obtain⟨⟨r146,r147,r148,r149⟩,q46,h⟩:=aB h
  refine GO 1 [0,1,2,3,4,5] (i7 q46) (aD (G (eM h (fun v7=>aQ [(2,.adr 6 0 3 0),(6,.u32 v7)] (H7 d1 r147 d3 d4 (IntKind.i64.wrap (d5+(1:Int))) d6 r148 r149 o1 o2 o3 o4 o5 (0:Int) (0:Int)) 7 6) (fun v7 h=> ?_) (fun v7 h=> ?_))))
  ·refine aU h (fun hb14 h=> ?_) (fun hb14 h=> ?_)
   ·obtain⟨r153,q50,h⟩:=aB h
    refine GPe 1 (oJ true true true true true q50) ?_
    exact eN h (gg [] [0,1,2,3,4,5,6])
   refine aC ?_
   exact eN h (gg [] [0,1,2,3,4,5,6])
  refine aA (G (aN (aG ?_)))
  obtain rfl:=sI h
  exact aE [some (.tree .u8 .u32)] [] [0,1,2,3,4,5,6] [(2,.adr 6 0 3 0)] (H7 d1 r147 d3 d4 (IntKind.i64.wrap (d5+(1:Int))) d6 r148 r149 o1 o2 o3 o4 o5 (1:Int) v7) 7 6 (by kernel_rfl) (by kernel_rfl) (by kernel_rfl)
 refine aC (aA ?_)
 obtain⟨⟨r158,r159,r160,r161⟩,q52,h⟩:=aB h
 refine GO 1 [0,1,2,3,4,5] (oI q52) (G (aN ?_))
 obtain rfl:=sI h
 exact aE [some (.tree .u8 .u32)] [] [0,1,2,3,4,5,6] [(2,.adr 6 0 3 0)] (H7 d1 r159 d3 d4 (IntKind.i64.wrap (d5+(1:Int))) d6 r160 r161 o1 o2 o3 o4 o5 (1:Int) r158) 7 6 (by kernel_rfl) (by kernel_rfl) (by kernel_rfl)
def bM(p1:List UInt8)(p3 p4:Int)(o1:List (List UInt8))(o2:List Int)(o3:List (Int×Tree×Tree))(o4:List (List UInt8))(o5:List Int)(rec_rq_either_v3:(List UInt8)→Int→Int→Int→Int→Int→Int→Int→(List (List UInt8))→(List Int)→(List (Int×Tree×Tree))→(List (List UInt8))→(List Int)→Option (Tree×Int×Int×Int×Int×Int)):(Int×Int×Int×Int×Int×List Tree)→Option ((Int×Int×Int×Int×Int×List Tree)⊕((List Tree)×Int×Int×Int×Int×Int)):=fun(p39,p40,p41,p42,p43,l5) =>
 ((eG p1 p39 p3 p4 p40 p41 p42 p43 o1 o2 o3 o4 o5).bind fun(r327,r328,r329,r330) =>
 (((if(r329 != (0:Int))=true then some (true)
 else((fF r327).bind fun r333 =>
 (if(!r333)=true then(if(r327 != (40:Int))=true then(if(r327 != (91:Int))=true then some ((r327 != (46:Int)))
 else some (false))
 else some (false))
 else some (false))))).bind fun v21=>(if v21=true then some (Sum.inr (l5,r328,p40,p41,r329,r330))
 else((jJ rec_rq_either_v3 p1 r328 p3 p4 p40 p41 r329 r330 o1 o2 o3 o4 o5).bind fun(r340,r341,r342,r343,r344,r345) =>
 ((aH (42:Int) p1 r341 p3 p4 r342 r343 r344 r345 o1 o2 o3 o4 o5).bind fun(r350,r351,r352,r353) =>
 (((if r350=true then some ((r351,r352,r353,(4:Int),(0:Int),([(Tree.node r340.op r340.set r340.kids)]:List Tree)))
 else((aH (43:Int) p1 r351 p3 p4 r342 r343 r352 r353 o1 o2 o3 o4 o5).bind fun(r374,r375,r376,r377) =>
 (if r374=true then some ((r375,r376,r377,(5:Int),(0:Int),([(Tree.node r340.op r340.set r340.kids)]:List Tree)))
 else((aH (63:Int) p1 r375 p3 p4 r342 r343 r376 r377 o1 o2 o3 o4 o5).bind fun(r382,r383,r384,r385) =>
 (if r382=true then some ((r383,r384,r385,(6:Int),(0:Int),([(Tree.node r340.op r340.set r340.kids)]:List Tree)))
 else some ((r383,r384,r385,r340.op,r340.set,r340.kids)))))))).bind fun(p44,p45,p46,e16,e17,e18)=>(if(l5.length+([(Tree.node e16 e17 e18)]:List Tree).length)*32≤140737488355328∧l5.length+([(Tree.node e16 e17 e18)]:List Tree).length≤9223372036854775807 then some (Sum.inl (p44,r342,r343,p45,p46,(l5++([(Tree.node e16 e17 e18)]:List Tree))))else none)))))))
def g7(rec_rq_either_v3:(List UInt8)→Int→Int→Int→Int→Int→Int→Int→(List (List UInt8))→(List Int)→(List (Int×Tree×Tree))→(List (List UInt8))→(List Int)→Option (Tree×Int×Int×Int×Int×Int))(p1:List UInt8)(p2 p3 p4 p5 p6 p7 p8:Int)(o1:List (List UInt8))(o2:List Int)(o3:List (Int×Tree×Tree))(o4:List (List UInt8))(o5:List Int):Option (Tree×Int×Int×Int×Int×Int) :=
 ((iter (bM p1 p3 p4 o1 o2 o3 o4 o5 rec_rq_either_v3) (p2,p5,p6,p7,p8,([]:List Tree))).bind fun(l6,v16,v17,v18,v19,v20)=>(if((l6.length:Int) == (0:Int))=true then some ((Tree.node (0:Int) (0:Int) ([]:List Tree)),v16,v17,v18,v19,v20)
 else(if((l6.length:Int) == (1:Int))=true then(if 0≤(0:Int)∧(0:Int)<(l6.length:Int)then(if(0:Int).toNat<l6.length then some ((Tree.node ((l6.getD ((0:Int).toNat) (Tree.node 0 0 [])).op) ((l6.getD ((0:Int).toNat) (Tree.node 0 0 [])).set) ((l6.getD ((0:Int).toNat) (Tree.node 0 0 [])).kids)),v16,v17,v18,v19,v20)else none)else none)
 else some ((Tree.node (2:Int) (0:Int) l6),v16,v17,v18,v19,v20))))
theorem qS(rec_rq_either_v3:(List UInt8)→Int→Int→Int→Int→Int→Int→Int→(List (List UInt8))→(List Int)→(List (Int×Tree×Tree))→(List (List UInt8))→(List Int)→Option (Tree×Int×Int×Int×Int×Int))(hrec_rq_either_v3:∀ {p1:List UInt8} {p2:Int} {p3:Int} {p4:Int} {p5:Int} {p6:Int} {p7:Int} {p8:Int} {o1:List (List UInt8)} {o2:List Int} {o3:List (Int×Tree×Tree)} {o4:List (List UInt8)} {o5:List Int} {res:Tree×Int×Int×Int×Int×Int},rec_rq_either_v3 p1 p2 p3 p4 p5 p6 p7 p8 o1 o2 o3 o4 o5=some res→Owns Try.prog 58 [.adr 0 0 13 0] (bJ p1 p2 p3 p4 p5 p6 p7 p8 o1 o2 o3 o4 o5) (.agg [.u8 res.1.op,.u32 res.1.set,.p false (.slice (.tree .u8 .u32)) res.1.kids]) (bJ p1 res.2.1 p3 p4 res.2.2.1 res.2.2.2.1 res.2.2.2.2.1 res.2.2.2.2.2 o1 o2 o3 o4 o5)){p1:List UInt8}{p2:Int}{p3:Int}{p4:Int}{p5:Int}{p6:Int}{p7:Int}{p8:Int}{o1:List (List UInt8)}{o2:List Int}{o3:List (Int×Tree×Tree)}{o4:List (List UInt8)}{o5:List Int}{res:Tree×Int×Int×Int×Int×Int}(h:g7 rec_rq_either_v3 p1 p2 p3 p4 p5 p6 p7 p8 o1 o2 o3 o4 o5=some res):
  Owns Try.prog 63 [.adr 0 0 13 0] (bJ p1 p2 p3 p4 p5 p6 p7 p8 o1 o2 o3 o4 o5) (.agg [.u8 res.1.op,.u32 res.1.set,.p false (.slice (.tree .u8 .u32)) res.1.kids]) (bJ p1 res.2.1 p3 p4 res.2.2.1 res.2.2.2.1 res.2.2.2.2.1 res.2.2.2.2.2 o1 o2 o3 o4 o5):=by
 refine Owns.of_body bL Try.func63 (by kernel_rfl) rfl (nl rfl) (fun Bw w0=> ?_)
 unfold g7 at h
 refine G (G (aD (aK (t7 h (fun(p39,p40,p41,p42,p43,l5)=>aQ [(0,.adr 0 0 13 0),(2,.adr 6 0 3 0),(3,.sl 7)] (T6 p1 p39 p3 p4 p40 p41 p42 p43 o1 o2 o3 o4 o5 (0:Int) (0:Int) l5) 8 6) 0 (fun(l6,v16,v17,v18,v19,v20)=>aQ [(2,.adr 6 0 3 0),(3,.sl 7)] (T6 p1 v16 p3 p4 v17 v18 v19 v20 o1 o2 o3 o4 o5 (0:Int) (0:Int) l6) 8 6) (gg [.nilS 3 22 50 (.tree .u8 .u32)] [0,1,2,3,4,5,6,22]) (fun y o h=> ?_) (fun r387 h=> ?_)))))
 ·obtain⟨p39,p40,p41,p42,p43,l5⟩:=y
  unfold bM at h
  refine aK ?_
  obtain⟨⟨r327,r328,r329,r330⟩,q87,h⟩:=aB h
  refine GO 1 [0,1,2,3,4,5] (gG q87) (aD (aD (eM h (fun v21=>aQ [(0,.adr 0 0 13 0),(2,.adr 6 0 3 0),(3,.sl 7),(29,.bo v21)] (T6 p1 r328 p3 p4 p40 p41 r329 r330 o1 o2 o3 o4 o5 (0:Int) (0:Int) l5) 8 6) (fun v21 h=> ?_) (fun v21 h=> ?_))))
  ·rcases aW h with⟨hb106,h⟩ | ⟨hb106,h⟩
   ·refine dT ⟨[(5,true),(21,true)],[]⟩ [(6,9,oc hb106),(12,13,oc hb106),(16,17,oc hb106),(20,21,oc hb106)] ?_
    exact eN h (gg [] [0,1,2,3,4,5,6,7])
   obtain⟨r333,q90,h⟩:=aB h
   rcases aW h with⟨hb107,h⟩ | ⟨hb107,h⟩
   ·rcases aW h with⟨hb108,h⟩ | ⟨hb108,h⟩
    ·rcases aW h with⟨hb109,h⟩ | ⟨hb109,h⟩
     ·have u_1:=(fB q90)
      refine dT ⟨[(5,false),(9,true),(12,true),(13,true),(16,true),(17,true),(20,true),(21,false)],[(7,(oP u_1))]⟩ [(6,6,an hb106),(7,7,oc (And.intro hb106 u_1)),(8,9,an hb106),(10,11,an hb107),(12,12,oc (And.intro hb106 hb107)),(13,13,an hb106),(14,15,an hb108),(16,16,oc (And.intro hb106 hb108)),(17,17,an hb106),(18,19,an hb109),(20,20,oc (And.intro hb106 hb109)),(21,21,oc hb106)] ?_
      exact eN h (gg [] [0,1,2,3,4,5,6,7])
     have u_1:=(fB q90)
     refine dT ⟨[(5,false),(9,true),(12,true),(13,true),(16,true),(17,false),(20,false),(21,false)],[(7,(oP u_1))]⟩ [(6,6,an hb106),(7,7,oc (And.intro hb106 u_1)),(8,9,an hb106),(10,11,an hb107),(12,12,oc (And.intro hb106 hb107)),(13,13,an hb106),(14,15,an hb108),(16,16,oc (And.intro hb106 hb108)),(17,17,an hb106),(18,19,oc hb109),(20,20,oc (And.intro hb106 hb109)),(21,21,oc hb106)] ?_
     exact eN h (gg [] [0,1,2,3,4,5,6,7])
    have u_1:=(fB q90)
    refine dT ⟨[(5,false),(9,true),(12,true),(13,false),(16,false),(21,false)],[(7,(oP u_1))]⟩ [(6,6,an hb106),(7,7,oc (And.intro hb106 u_1)),(8,9,an hb106),(10,11,an hb107),(12,12,oc (And.intro hb106 hb107)),(13,13,an hb106),(14,15,oc hb108),(16,16,oc (And.intro hb106 hb108)),(17,17,an hb106),(20,20,an hb106),(21,21,oc hb106)] ?_
    exact eN h (gg [] [0,1,2,3,4,5,6,7])
   have u_1:=(fB q90)
   refine dT ⟨[(5,false),(9,false),(12,false),(21,false)],[(7,(oP u_1))]⟩ [(6,6,an hb106),(7,7,oc (And.intro hb106 u_1)),(8,9,an hb106),(10,11,oc hb107),(12,12,oc (And.intro hb106 hb107)),(13,13,an hb106),(16,17,an hb106),(20,20,an hb106),(21,21,oc hb106)] ?_
   exact eN h (gg [] [0,1,2,3,4,5,6,7])
  refine aA (aU h (fun hb110 h=> ?_) (fun hb110 h=> ?_))
  ·refine bA (eL (P8 rfl ?_))
   exact eX h (gg [] [0,1,2,3,4,5,6,7])
  refine aC (aA ?_)
  obtain⟨⟨r340,r341,r342,r343,r344,r345⟩,q92,h⟩:=aB h
  refine GO 1 [0,1,2,3,4,5] (vR rec_rq_either_v3 hrec_rq_either_v3 q92) (aD ?_)
  obtain⟨⟨r350,r351,r352,r353⟩,q94,h⟩:=aB h
  refine GO 1 [0,1,2,3,4,5] (b8 q94) (eM h (fun(p44,p45,p46,e16,e17,e18)=>aQ [(0,.adr 0 0 13 0),(2,.adr 6 0 3 0),(3,.sl 7),(5,.adr 8 0 3 0)] (aC8 p1 p44 p3 p4 r342 r343 p45 p46 o1 o2 o3 o4 o5 (0:Int) (0:Int) l5 e16 e17 e18) 9 6) (fun r386 h=> ?_) (fun r386 h=> ?_))
  ·refine aU h (fun hb114 h=> ?_) (fun hb114 h=> ?_)
   ·refine Ge ?_
    exact eN h (gg [.frzC 24 2] [0,1,2,3,4,5,6,7,24])
   obtain⟨⟨r374,r375,r376,r377⟩,q100,h⟩:=aB h
   refine GO 1 [0,1,2,3,4,5] (b8 q100) (aU h (fun hb115 h=> ?_) (fun hb115 h=> ?_))
   ·refine Ge ?_
    exact eN h (gg [.frzC 24 2] [0,1,2,3,4,5,6,7,24])
   obtain⟨⟨r382,r383,r384,r385⟩,q102,h⟩:=aB h
   refine GO 1 [0,1,2,3,4,5] (b8 q102) (aU h (fun hb116 h=> ?_) (fun hb116 h=> ?_))
   ·refine Ge ?_
    exact eN h (gg [.frzC 24 2] [0,1,2,3,4,5,6,7,24])
   refine aC ?_
   exact eN h (gg [] [0,1,2,3,4,5,6,7,24])
  obtain⟨p44,p45,p46,e16,e17,e18⟩:=r386
  refine aA (GCe 3 h (fun h=>aO ?_))
  exact eB h (gg [] [0,1,2,3,4,5,6,33])
 obtain⟨l6,v16,v17,v18,v19,v20⟩:=r387
 refine bB (aA (aD (G (aU h (fun hb117 h=> ?_) (fun hb117 h=> ?_)))))
 ·refine G (aN (aG ?_))
  obtain rfl:=sI h
  exact aE [some (.tree .u8 .u32)] [] [0,1,2,3,4,5,6] [(2,.adr 6 0 3 0)] (H7 p1 v16 p3 p4 v17 v18 v19 v20 o1 o2 o3 o4 o5 (0:Int) (0:Int)) 7 6 (by kernel_rfl) (by kernel_rfl) (by kernel_rfl)
 refine aC (aA (aD (G (aU h (fun hb118 h=> ?_) (fun hb118 h=> ?_)))))
 ·obtain⟨c19,c20,h⟩:=g2 h
  refine GN a0 [(1,1,oc c19),(2,2,oc c20)] (aN (aG ?_))
  obtain rfl:=sI h
  exact aE [some (.tree .u8 .u32)] [] [0,1,2,3,4,5,6] [(2,.adr 6 0 3 0)] (aBp p1 v16 p3 p4 v17 v18 v19 v20 o1 o2 o3 o4 o5 ((l6.getD ((0:Int).toNat) (Tree.node 0 0 [])).op) ((l6.getD ((0:Int).toNat) (Tree.node 0 0 [])).set) ((l6.getD ((0:Int).toNat) (Tree.node 0 0 [])).kids)) 7 6 (by kernel_rfl) (by kernel_rfl) (by kernel_rfl)
 refine aC (aA (G (aN ?_)))
 obtain rfl:=sI h
 exact aE [some (.tree .u8 .u32)] [] [0,1,2,3,4,5,6,7] [(2,.adr 6 0 3 0)] (aB5 p1 v16 p3 p4 v17 v18 v19 v20 o1 o2 o3 o4 o5 (2:Int) (0:Int) l6) 8 6 (by kernel_rfl) (by kernel_rfl) (by kernel_rfl)
def b9(p1:List UInt8)(p3 p4:Int)(o1:List (List UInt8))(o2:List Int)(o3:List (Int×Tree×Tree))(o4:List (List UInt8))(o5:List Int)(rec_rq_either_v3:(List UInt8)→Int→Int→Int→Int→Int→Int→Int→(List (List UInt8))→(List Int)→(List (Int×Tree×Tree))→(List (List UInt8))→(List Int)→Option (Tree×Int×Int×Int×Int×Int)):(Int×Int×Int×Int×Int×List Tree)→Option ((Int×Int×Int×Int×Int×List Tree)⊕((List Tree)×Int×Int×Int×Int×Int)):=fun(p34,p35,p36,p37,p38,l8) =>
 ((aH (124:Int) p1 p34 p3 p4 p35 p36 p37 p38 o1 o2 o3 o4 o5).bind fun(r205,r206,r207,r208) =>
 (if r205=true then((g7 rec_rq_either_v3 p1 r206 p3 p4 p35 p36 r207 r208 o1 o2 o3 o4 o5).bind fun(r215,r216,r217,r218,r219,r220) =>
 (if(l8.length+([(Tree.node r215.op r215.set r215.kids)]:List Tree).length)*32≤140737488355328∧l8.length+([(Tree.node r215.op r215.set r215.kids)]:List Tree).length≤9223372036854775807 then some (Sum.inl (r216,r217,r218,r219,r220,(l8++([(Tree.node r215.op r215.set r215.kids)]:List Tree))))else none))
 else some (Sum.inr (l8,r206,p35,p36,r207,r208))))
def dU(rec_rq_either_v3:(List UInt8)→Int→Int→Int→Int→Int→Int→Int→(List (List UInt8))→(List Int)→(List (Int×Tree×Tree))→(List (List UInt8))→(List Int)→Option (Tree×Int×Int×Int×Int×Int))(p1:List UInt8)(p2 p3 p4 p5 p6 p7 p8:Int)(o1:List (List UInt8))(o2:List Int)(o3:List (Int×Tree×Tree))(o4:List (List UInt8))(o5:List Int):Option (Tree×Int×Int×Int×Int×Int) :=
 ((g7 rec_rq_either_v3 p1 p2 p3 p4 p5 p6 p7 p8 o1 o2 o3 o4 o5).bind fun(r155,r156,r157,r158,r159,r160) =>
 ((iter (b9 p1 p3 p4 o1 o2 o3 o4 o5 rec_rq_either_v3) (r156,r157,r158,r159,r160,([(Tree.node r155.op r155.set r155.kids)]:List Tree))).bind fun(l9,v21,v22,v23,v24,v25)=>(if((l9.length:Int) == (1:Int))=true then(if 0≤(0:Int)∧(0:Int)<(l9.length:Int)then(if(0:Int).toNat<l9.length then some ((Tree.node ((l9.getD ((0:Int).toNat) (Tree.node 0 0 [])).op) ((l9.getD ((0:Int).toNat) (Tree.node 0 0 [])).set) ((l9.getD ((0:Int).toNat) (Tree.node 0 0 [])).kids)),v21,v22,v23,v24,v25)else none)else none)
 else some ((Tree.node (3:Int) (0:Int) l9),v21,v22,v23,v24,v25))))
def eY:Nat→(List UInt8)→Int→Int→Int→Int→Int→Int→Int→(List (List UInt8))→(List Int)→(List (Int×Tree×Tree))→(List (List UInt8))→(List Int)→Option (Tree×Int×Int×Int×Int×Int)
 | 0=>fun _ _ _ _ _ _ _ _ _ _ _ _ _=>none
 | n+1=>dU (eY n)
theorem rG(rec_rq_either_v3:(List UInt8)→Int→Int→Int→Int→Int→Int→Int→(List (List UInt8))→(List Int)→(List (Int×Tree×Tree))→(List (List UInt8))→(List Int)→Option (Tree×Int×Int×Int×Int×Int))(hrec_rq_either_v3:∀ {p1:List UInt8} {p2:Int} {p3:Int} {p4:Int} {p5:Int} {p6:Int} {p7:Int} {p8:Int} {o1:List (List UInt8)} {o2:List Int} {o3:List (Int×Tree×Tree)} {o4:List (List UInt8)} {o5:List Int} {res:Tree×Int×Int×Int×Int×Int},rec_rq_either_v3 p1 p2 p3 p4 p5 p6 p7 p8 o1 o2 o3 o4 o5=some res→Owns Try.prog 58 [.adr 0 0 13 0] (bJ p1 p2 p3 p4 p5 p6 p7 p8 o1 o2 o3 o4 o5) (.agg [.u8 res.1.op,.u32 res.1.set,.p false (.slice (.tree .u8 .u32)) res.1.kids]) (bJ p1 res.2.1 p3 p4 res.2.2.1 res.2.2.2.1 res.2.2.2.2.1 res.2.2.2.2.2 o1 o2 o3 o4 o5)){p1:List UInt8}{p2:Int}{p3:Int}{p4:Int}{p5:Int}{p6:Int}{p7:Int}{p8:Int}{o1:List (List UInt8)}{o2:List Int}{o3:List (Int×Tree×Tree)}{o4:List (List UInt8)}{o5:List Int}{res:Tree×Int×Int×Int×Int×Int}(h:dU rec_rq_either_v3 p1 p2 p3 p4 p5 p6 p7 p8 o1 o2 o3 o4 o5=some res):
  Owns Try.prog 58 [.adr 0 0 13 0] (bJ p1 p2 p3 p4 p5 p6 p7 p8 o1 o2 o3 o4 o5) (.agg [.u8 res.1.op,.u32 res.1.set,.p false (.slice (.tree .u8 .u32)) res.1.kids]) (bJ p1 res.2.1 p3 p4 res.2.2.1 res.2.2.2.1 res.2.2.2.2.1 res.2.2.2.2.2 o1 o2 o3 o4 o5):=by
 refine Owns.of_body bL Try.func58 (by kernel_rfl) rfl (nl rfl) (fun Bw w0=> ?_)
 unfold dU at h
 refine G ?_
 obtain⟨⟨r155,r156,r157,r158,r159,r160⟩,q30,h⟩:=aB h
 refine GO 1 [0,1,2,3,4,5] (qS rec_rq_either_v3 hrec_rq_either_v3 q30) (G (aD (aK (t7 h (fun(p34,p35,p36,p37,p38,l8)=>aQ [(0,.adr 0 0 13 0),(2,.adr 6 0 3 0),(4,.sl 7)] (T6 p1 p34 p3 p4 p35 p36 p37 p38 o1 o2 o3 o4 o5 (0:Int) (0:Int) l8) 8 6) 0 (fun(l9,v21,v22,v23,v24,v25)=>aQ [(2,.adr 6 0 3 0),(4,.sl 7)] (T6 p1 v21 p3 p4 v22 v23 v24 v25 o1 o2 o3 o4 o5 (0:Int) (0:Int) l9) 8 6) (gg [] [0,1,2,3,4,5,6,54]) (fun y o h=> ?_) (fun r221 h=> ?_)))))
 ·obtain⟨p34,p35,p36,p37,p38,l8⟩:=y
  unfold b9 at h
  refine aD ?_
  obtain⟨⟨r205,r206,r207,r208⟩,q40,h⟩:=aB h
  refine GO 1 [0,1,2,3,4,5] (b8 q40) (aU h (fun hb11 h=> ?_) (fun hb11 h=> ?_))
  ·refine aC (aA (aK ?_))
   obtain⟨⟨r215,r216,r217,r218,r219,r220⟩,q42,h⟩:=aB h
   refine GO 1 [0,1,2,3,4,5] (qS rec_rq_either_v3 hrec_rq_either_v3 q42) (GCe 3 h (fun h=>aO ?_))
   exact eB h (gg [] [0,1,2,3,4,5,6,80])
  refine bA (eL ?_)
  exact eX h (gg [] [0,1,2,3,4,5,6,7])
 obtain⟨l9,v21,v22,v23,v24,v25⟩:=r221
 refine bB (aA (aD (G (aU h (fun hb12 h=> ?_) (fun hb12 h=> ?_)))))
 ·obtain⟨c29,c30,h⟩:=g2 h
  refine GN a0 [(1,1,oc c29),(2,2,oc c30)] (aN (aG ?_))
  obtain rfl:=sI h
  exact aE [some (.tree .u8 .u32)] [] [0,1,2,3,4,5,6] [(2,.adr 6 0 3 0)] (aBp p1 v21 p3 p4 v22 v23 v24 v25 o1 o2 o3 o4 o5 ((l9.getD ((0:Int).toNat) (Tree.node 0 0 [])).op) ((l9.getD ((0:Int).toNat) (Tree.node 0 0 [])).set) ((l9.getD ((0:Int).toNat) (Tree.node 0 0 [])).kids)) 7 6 (by kernel_rfl) (by kernel_rfl) (by kernel_rfl)
 refine aC (aA (G (aN ?_)))
 obtain rfl:=sI h
 exact aE [some (.tree .u8 .u32)] [] [0,1,2,3,4,5,6,7] [(2,.adr 6 0 3 0)] (aB5 p1 v21 p3 p4 v22 v23 v24 v25 o1 o2 o3 o4 o5 (3:Int) (0:Int) l9) 8 6 (by kernel_rfl) (by kernel_rfl) (by kernel_rfl)
theorem jP:∀(n:Nat) {p1:List UInt8} {p2:Int} {p3:Int} {p4:Int} {p5:Int} {p6:Int} {p7:Int} {p8:Int} {o1:List (List UInt8)} {o2:List Int} {o3:List (Int×Tree×Tree)} {o4:List (List UInt8)} {o5:List Int} {res:Tree×Int×Int×Int×Int×Int},eY n p1 p2 p3 p4 p5 p6 p7 p8 o1 o2 o3 o4 o5=some res→Owns Try.prog 58 [.adr 0 0 13 0] (bJ p1 p2 p3 p4 p5 p6 p7 p8 o1 o2 o3 o4 o5) (.agg [.u8 res.1.op,.u32 res.1.set,.p false (.slice (.tree .u8 .u32)) res.1.kids]) (bJ p1 res.2.1 p3 p4 res.2.2.1 res.2.2.2.1 res.2.2.2.2.1 res.2.2.2.2.2 o1 o2 o3 o4 o5)
 | 0,_,_,_,_,_,_,_,_,_,_,_,_,_,_,h=>by cases h
 | n+1,p1,p2,p3,p4,p5,p6,p7,p8,o1,o2,o3,o4,o5,res,h=>rG (eY n) (jP n)  h
def fS(does1 at1:Int)(p1:List UInt8)(p2 p3 p4 p5 p6 p7 p8:Int)(o1:List (List UInt8))(o2:List Int)(o3:List (Int×Tree×Tree))(o4:List (List UInt8))(o5:List Int):Option (Int×(List (Int×Tree×Tree))×Int×Int×Int×Int) :=
 (((if((o3.length:Int) == (24:Int))=true then((cE (24:Int) at1 p1 p2 p3 p4 p5 p6 p7 p8 o1 o2 o3 o4 o5).bind fun(r52,r53) =>
 some ((r52,r53)))
 else some ((p7,p8)))).bind fun(p11,p12)=>((eY 1000 p1 p2 p3 p4 p5 p6 p11 p12 o1 o2 o3 o4 o5).bind fun(r61,r62,r63,r64,r65,r66) =>
 ((dG (47:Int) p1 r62 p3 p4 r63 r64 r65 r66 o1 o2 o3 o4 o5).bind fun(r70,r71,r72) =>
 ((eY 1000 p1 r70 p3 p4 r63 r64 r71 r72 o1 o2 o3 o4 o5).bind fun(r79,r80,r81,r82,r83,r84) =>
 ((dG (59:Int) p1 r80 p3 p4 r81 r82 r83 r84 o1 o2 o3 o4 o5).bind fun(r88,r89,r90) =>
 (((if(r89 == (0:Int))=true then(if(o3.length+([(does1,((Tree.node r61.op r61.set r61.kids),(Tree.node r79.op r79.set r79.kids)))]:List (Int×Tree×Tree)).length)*72≤140737488355328∧o3.length+([(does1,((Tree.node r61.op r61.set r61.kids),(Tree.node r79.op r79.set r79.kids)))]:List (Int×Tree×Tree)).length≤9223372036854775807 then some ((o3++([(does1,((Tree.node r61.op r61.set r61.kids),(Tree.node r79.op r79.set r79.kids)))]:List (Int×Tree×Tree))))else none)
 else some (o3))).bind fun v8=>some (r88,v8,r81,r82,r89,r90)))))))
theorem lC{does1:Int}{at1:Int}{p1:List UInt8}{p2:Int}{p3:Int}{p4:Int}{p5:Int}{p6:Int}{p7:Int}{p8:Int}{o1:List (List UInt8)}{o2:List Int}{o3:List (Int×Tree×Tree)}{o4:List (List UInt8)}{o5:List Int}{res:Int×(List (Int×Tree×Tree))×Int×Int×Int×Int}(h:fS does1 at1 p1 p2 p3 p4 p5 p6 p7 p8 o1 o2 o3 o4 o5=some res):
  Owns Try.prog 45 [.adr 0 0 13 0,.u8 does1,.i64 at1] (bJ p1 p2 p3 p4 p5 p6 p7 p8 o1 o2 o3 o4 o5) (.tup []) (aBk p1 res.1 p3 p4 res.2.2.1 res.2.2.2.1 res.2.2.2.2.1 res.2.2.2.2.2 o1 o2 o4 o5 res.2.1):=by
 refine Owns.of_body bL Try.func45 (by kernel_rfl) rfl (nl rfl) (fun Bw w0=> ?_)
 unfold fS at h
 refine aD (G (eM h (fun(p11,p12)=>aQ [(0,.adr 0 0 13 0),(1,.u8 does1)] (bJ p1 p2 p3 p4 p5 p6 p11 p12 o1 o2 o3 o4 o5) 6 6) (fun r54 h=> ?_) (fun r54 h=> ?_)))
 ·refine aU h (fun hb6 h=> ?_) (fun hb6 h=> ?_)
  ·obtain⟨⟨r52,r53⟩,q16,h⟩:=aB h
   refine jH 2 [0,1,2,3,4,5] (cR q16) ?_
   exact eN h (gg [] [0,1,2,3,4,5])
  refine aC ?_
  exact eN h (gg [] [0,1,2,3,4,5])
 obtain⟨p11,p12⟩:=r54
 refine aA ?_
 obtain⟨⟨r61,r62,r63,r64,r65,r66⟩,q18,h⟩:=aB h
 refine GO 1 [0,1,2,3,4,5] (jP 1000 q18) ?_
 obtain⟨⟨r70,r71,r72⟩,q20,h⟩:=aB h
 refine GO 1 [0,1,2,3,4,5] (fI q20) ?_
 obtain⟨⟨r79,r80,r81,r82,r83,r84⟩,q22,h⟩:=aB h
 refine GO 1 [0,1,2,3,4,5] (jP 1000 q22) ?_
 obtain⟨⟨r88,r89,r90⟩,q24,h⟩:=aB h
 refine GO 1 [0,1,2,3,4,5] (fI q24) (G (eM h (fun v8=>aQ [] (aBk p1 r88 p3 p4 r81 r82 r89 r90 o1 o2 o4 o5 v8) 7 6) (fun v8 h=> ?_) (fun v8 h=> ?_)))
 ·refine aU h (fun hb8 h=> ?_) (fun hb8 h=> ?_)
  ·obtain⟨c8,h⟩:=bO h
   refine yT a0 [(11,11,oc c8)] ?_
   exact eN h (gg [] [0,1,2,3,4,5,230])
  refine aC ?_
  exact eN h (gg [] [0,1,2,3,4,5,3])
 obtain rfl:=sI h
 exact(aE [] [] [0,1,2,3,4,5,6] [] (aBk p1 r88 p3 p4 r81 r82 r89 r90 o1 o2 o4 o5 v8) 7 6 (by kernel_rfl) (by kernel_rfl) (by kernel_rfl)).normal
def cI(d1:List UInt8)(d3 d4 d5 d6:Int)(o3:List (Int×Tree×Tree)):(Int×(List (List UInt8))×(List Int)×(List (List UInt8))×(List Int)×Int×Int)→Option ((Int×(List (List UInt8))×(List Int)×(List (List UInt8))×(List Int)×Int×Int)⊕(Int×(List (List UInt8))×(List Int)×(List (List UInt8))×(List Int)×Int×Int)):=fun(d116,d117,d118,d119,d120,d121,d122) =>
 (((if(d121 == (0:Int))=true then((aH (59:Int) d1 d116 d3 d4 d5 d6 d121 d122 d117 d118 o3 d119 d120).bind fun(r765,r766,r767,r768) =>
 some ((r766,r767,r768,(!r765))))
 else some ((d116,d121,d122,false)))).bind fun(d123,d124,d125,v87)=>(if v87=true then((eV d1 d123 d3 d4 d5 d6 d124 d125 d117 d118 o3 d119 d120).bind fun(r775,r776,r777,r778,r779) =>
 (((if(r778 == (0:Int))=true then some (((d117.length:Int) == (24:Int)))
 else some (false))).bind fun v88=>(((if v88=true then((cE (24:Int) r776 d1 r777 d3 d4 d5 d6 r778 r779 d117 d118 o3 d119 d120).bind fun(r786,r787) =>
 some ((r786,r787)))
 else some ((r778,r779)))).bind fun(d126,d127)=>(if(d126 == (0:Int))=true then(if 0≤(d117.length:Int)then((fH r775 (IntKind.u32.wrap ((1:Int)*2 ^ (min (d117.length:Int).toNat IntKind.u32.bits))) d1 r777 d3 d4 d5 d6 d126 d127 d117 d118 o3 d119 d120).bind fun(r791,r792) =>
 (if(d117.length+([r775]:List (List UInt8)).length)*16≤140737488355328∧d117.length+([r775]:List (List UInt8)).length≤9223372036854775807 then(if(d118.length+([(d117.length:Int)]:List Int).length)*8≤140737488355328∧d118.length+([(d117.length:Int)]:List Int).length≤9223372036854775807 then some (Sum.inl (r777,(d117++([r775]:List (List UInt8))),(d118++([(d117.length:Int)]:List Int)),r791,r792,d126,d127))else none)else none))else none)
 else some (Sum.inl (r777,d117,d118,d119,d120,d126,d127))))))
 else some (Sum.inr (d123,d117,d118,d119,d120,d124,d125))))
def iL(d1:List UInt8)(d2 d3 d4 d5 d6 d7 d8:Int)(o1:List (List UInt8))(o2:List Int)(o3:List (Int×Tree×Tree))(o4:List (List UInt8))(o5:List Int):Option (Int×(List (List UInt8))×Int×Int×(List Int)×(List (Int×Tree×Tree))×(List (List UInt8))×(List Int)×Int×Int×Int×Int) :=
 ((cZ d1 d2 d3 d4 d5 d6 d7 d8 o1 o2 o3 o4 o5).bind fun(r459,r460,r461,r462,r463) =>
 (((if(r459 == ([99,108,97,115,115]:List UInt8))=true then((iter (cI d1 d3 d4 d5 d6 o3) (r461,o1,o2,o4,o5,r462,r463)).bind fun(v80,v81,v82,v83,v84,v85,v86)=>some ((v80,v81,d3,d4,v82,o3,v83,v84,d5,d6,v85,v86)))
 else(if(r459 == ([115,101,116]:List UInt8))=true then((eV d1 r461 d3 d4 d5 d6 r462 r463 o1 o2 o3 o4 o5).bind fun(r799,r800,r801,r802,r803) =>
 ((dG (61:Int) d1 r801 d3 d4 d5 d6 r802 r803 o1 o2 o3 o4 o5).bind fun(r807,r808,r809) =>
 ((eK (59:Int) d1 r807 d3 d4 d5 d6 r808 r809 o1 o2 o3 o4 o5).bind fun(r814,r815,r816,r817) =>
 (if(r816 == (0:Int))=true then((fH r799 r814 d1 r815 d3 d4 d5 d6 r816 r817 o1 o2 o3 o4 o5).bind fun(r820,r821) =>
 some ((r815,o1,d3,d4,o2,o3,r820,r821,d5,d6,r816,r817)))
 else some ((r815,o1,d3,d4,o2,o3,o4,o5,d5,d6,r816,r817))))))
 else(if(r459 == ([106,111,105,110]:List UInt8))=true then((eK (47:Int) d1 r461 d3 d4 d5 d6 r462 r463 o1 o2 o3 o4 o5).bind fun(r826,r827,r828,r829) =>
 ((eK (59:Int) d1 r827 (bY .or .u32 d3 r826) d4 d5 d6 r828 r829 o1 o2 o3 o4 o5).bind fun(r834,r835,r836,r837) =>
 some ((r835,o1,(bY .or .u32 d3 r826),(bY .or .u32 d4 r834),o2,o3,o4,o5,d5,d6,r836,r837))))
 else(if(r459 == ([116,114,101,97,116]:List UInt8))=true then((eW d1 r461 d3 d4 d5 d6 r462 r463 o1 o2 o3 o4 o5).bind fun(r842,r843,r844,r845) =>
 ((dG (61:Int) d1 r843 d3 d4 d5 d6 r844 r845 o1 o2 o3 o4 o5).bind fun(r849,r850,r851) =>
 ((eW d1 r849 d3 d4 d5 d6 r850 r851 o1 o2 o3 o4 o5).bind fun(r856,r857,r858,r859) =>
 (((if(r858 == (0:Int))=true then(if 0≤r842∧r842<(o2.length:Int)then(if r842.toNat<o2.length then some ((o2.set r842.toNat r856))else none)else none)
 else some (o2))).bind fun d128=>((dG (59:Int) d1 r857 d3 d4 d5 d6 r858 r859 o1 d128 o3 o4 o5).bind fun(r863,r864,r865) =>
 some ((r863,o1,d3,d4,d128,o3,o4,o5,d5,d6,r864,r865)))))))
 else(if(r459 == ([107,101,101,112]:List UInt8))=true then((fS (0:Int) r460 d1 r461 d3 d4 d5 d6 r462 r463 o1 o2 o3 o4 o5).bind fun(r872,r873,r874,r875,r876,r877) =>
 some ((r872,o1,d3,d4,o2,r873,o4,o5,r874,r875,r876,r877)))
 else(if(r459 == ([109,97,121]:List UInt8))=true then((fS (1:Int) r460 d1 r461 d3 d4 d5 d6 r462 r463 o1 o2 o3 o4 o5).bind fun(r884,r885,r886,r887,r888,r889) =>
 some ((r884,o1,d3,d4,o2,r885,o4,o5,r886,r887,r888,r889)))
 else(if(r459 == ([109,117,115,116]:List UInt8))=true then((fS (2:Int) r460 d1 r461 d3 d4 d5 d6 r462 r463 o1 o2 o3 o4 o5).bind fun(r896,r897,r898,r899,r900,r901) =>
 some ((r896,o1,d3,d4,o2,r897,o4,o5,r898,r899,r900,r901)))
 else((cE (21:Int) r460 d1 r461 d3 d4 d5 d6 r462 r463 o1 o2 o3 o4 o5).bind fun(r904,r905) =>
 some ((r461,o1,d3,d4,o2,o3,o4,o5,d5,d6,r904,r905))))))))))).bind fun(v64,v65,v66,v67,v68,v69,v70,v71,v72,v73,v74,v75)=>some (v64,v65,v66,v67,v68,v69,v70,v71,v72,v73,v74,v75)))
theorem xN{d1:List UInt8}{d2:Int}{d3:Int}{d4:Int}{d5:Int}{d6:Int}{d7:Int}{d8:Int}{o1:List (List UInt8)}{o2:List Int}{o3:List (Int×Tree×Tree)}{o4:List (List UInt8)}{o5:List Int}{res:Int×(List (List UInt8))×Int×Int×(List Int)×(List (Int×Tree×Tree))×(List (List UInt8))×(List Int)×Int×Int×Int×Int}(h:iL d1 d2 d3 d4 d5 d6 d7 d8 o1 o2 o3 o4 o5=some res):
  Owns Try.prog 27 [.adr 0 0 13 0] (bJ d1 d2 d3 d4 d5 d6 d7 d8 o1 o2 o3 o4 o5) (.tup []) (aBj d1 res.1 res.2.2.1 res.2.2.2.1 res.2.2.2.2.2.2.2.2.1 res.2.2.2.2.2.2.2.2.2.1 res.2.2.2.2.2.2.2.2.2.2.1 res.2.2.2.2.2.2.2.2.2.2.2 res.2.1 res.2.2.2.2.1 res.2.2.2.2.2.1 res.2.2.2.2.2.2.1 res.2.2.2.2.2.2.2.1):=by
 refine Owns.of_body bL Try.func27 (by kernel_rfl) rfl (nl rfl) (fun Bw w0=> ?_)
 unfold iL at h
 obtain⟨⟨r459,r460,r461,r462,r463⟩,q126,h⟩:=aB h
 refine GO 1 [0,1,2,3,4,5] (iT q126) (G (aK (G (eM h (fun(v64,v65,v66,v67,v68,v69,v70,v71,v72,v73,v74,v75)=>aQ [] (aBj d1 v64 v66 v67 v72 v73 v74 v75 v65 v68 v69 v70 v71) 11 6) (fun r906 h=> ?_) (fun r906 h=> ?_)))))
 ·refine aU h (fun hb121 h=> ?_) (fun hb121 h=> ?_)
  ·refine aK (t7 h (fun(d116,d117,d118,d119,d120,d121,d122)=>aQ [(0,.adr 0 0 13 0)] (aAf d1 d116 d3 d4 d5 d6 d121 d122 o3 d117 d118 d119 d120) 10 6) 1 (fun(v80,v81,v82,v83,v84,v85,v86)=>aQ [] (aAf d1 v80 d3 d4 d5 d6 v85 v86 o3 v81 v82 v83 v84) 10 6) (gg [] [0,1,2,3,4,5,1,2,4,5]) (fun y o h=> ?_) (fun r793 h=> ?_))
   ·obtain⟨d116,d117,d118,d119,d120,d121,d122⟩:=y
    unfold cI at h
    refine aD (aD (eM h (fun(d123,d124,d125,v87)=>aQ [(0,.adr 0 0 13 0),(34,.bo v87)] (aAf d1 d123 d3 d4 d5 d6 d124 d125 o3 d117 d118 d119 d120) 10 6) (fun r769 h=> ?_) (fun r769 h=> ?_)))
    ·rcases aW h with⟨hb144,h⟩ | ⟨hb144,h⟩
     ·obtain⟨⟨r765,r766,r767,r768⟩,q212,h⟩:=aB h
      have u_1:=(b8 q212)
      refine dT ⟨[(5,true),(9,true)],[(7,(oO u_1 [0,6,7,3,8,9]))]⟩ [(6,6,an hb144),(7,7,oc (And.intro hb144 u_1)),(8,8,an hb144),(9,9,oc hb144)] ?_
      exact eN h (gg [] [0,1,2,3,4,5,6,7,8,9])
     refine dT ⟨[(5,false),(9,false)],[]⟩ [(6,9,oc hb144)] ?_
     exact eN h (gg [] [0,1,2,3,4,5,6,7,8,9])
    obtain⟨d123,d124,d125,v87⟩:=r769
    refine aA (aU h (fun hb145 h=> ?_) (fun hb145 h=> ?_))
    ·refine aC (aA (aK ?_))
     obtain⟨⟨r775,r776,r777,r778,r779⟩,q214,h⟩:=aB h
     refine GO 1 [0,6,7,3,8,9] (nJ q214) (aD (aD (eM h (fun v88=>aQ [(0,.adr 0 0 13 0),(4,.st r775),(5,.i64 r776),(53,.bo v88)] (aAf d1 r777 d3 d4 d5 d6 r778 r779 o3 d117 d118 d119 d120) 10 6) (fun v88 h=> ?_) (fun v88 h=> ?_))))
     ·rcases aW h with⟨hb148,h⟩ | ⟨hb148,h⟩
      ·refine dT ⟨[(5,true),(13,true)],[]⟩ [(6,12,an hb148),(13,13,oc hb148)] ?_
       exact eN h (gg [] [0,1,2,3,4,5,6,7,8,9])
      refine dT ⟨[(5,false),(13,false)],[]⟩ [(6,13,oc hb148)] ?_
      exact eN h (gg [] [0,1,2,3,4,5,6,7,8,9])
     refine aA (eM h (fun(d126,d127)=>aQ [(0,.adr 0 0 13 0),(4,.st r775)] (aAf d1 r777 d3 d4 d5 d6 d126 d127 o3 d117 d118 d119 d120) 10 6) (fun r788 h=> ?_) (fun r788 h=> ?_))
     ·refine aU h (fun hb150 h=> ?_) (fun hb150 h=> ?_)
      ·obtain⟨⟨r786,r787⟩,q218,h⟩:=aB h
       refine jH 2 [0,6,7,3,8,9] (cR q218) ?_
       exact eN h (gg [] [0,1,2,3,4,5,6,7,8,9])
      refine aC ?_
      exact eN h (gg [] [0,1,2,3,4,5,6,7,8,9])
     obtain⟨d126,d127⟩:=r788
     refine aA (G (aU h (fun hb151 h=> ?_) (fun hb151 h=> ?_)))
     ·refine G ?_
      obtain⟨c92,h⟩:=bO h
      obtain⟨⟨r791,r792⟩,q220,h⟩:=aB h
      have u_1:=(lM q220)
      refine GN ⟨[],[(4,(oO u_1 [0,6,7,3,8,9]))]⟩ [(3,3,oc c92),(4,4,oc u_1)] (GC 8 h (fun h=>GCe 8 h (fun h=>aO ?_)))
      exact eB h (gg [] [0,1,2,3,4,5,210,314,138,139])
     refine aC (aO ?_)
     exact eB h (gg [] [0,1,2,3,4,5,6,7,8,9])
    refine bA (eL ?_)
    exact eX h (gg [] [0,1,2,3,4,5,6,7,8,9])
   obtain⟨v80,v81,v82,v83,v84,v85,v86⟩:=r793
   refine bB ?_
   exact eN h (gg [] [0,1,2,3,4,5,6,7,3,8,9])
  refine G (aU h (fun hb152 h=> ?_) (fun hb152 h=> ?_))
  ·obtain⟨⟨r799,r800,r801,r802,r803⟩,q222,h⟩:=aB h
   refine GO 1 [0,1,2,3,4,5] (nJ q222) ?_
   obtain⟨⟨r807,r808,r809⟩,q224,h⟩:=aB h
   refine GO 1 [0,1,2,3,4,5] (fI q224) ?_
   obtain⟨⟨r814,r815,r816,r817⟩,q226,h⟩:=aB h
   refine GO 1 [0,1,2,3,4,5] (i7 q226) (G (aU h (fun hb153 h=> ?_) (fun hb153 h=> ?_)))
   ·obtain⟨⟨r820,r821⟩,q228,h⟩:=aB h
    refine jH 3 [0,1,2,3,4,5] (lM q228) ?_
    exact eN h (gg [] [0,1,2,3,4,5,1,2,3,262,263])
   refine aC ?_
   exact eN h (gg [] [0,1,2,3,4,5,1,2,3,4,5])
  refine G (aU h (fun hb154 h=> ?_) (fun hb154 h=> ?_))
  ·obtain⟨⟨r826,r827,r828,r829⟩,q230,h⟩:=aB h
   refine GO 1 [0,1,2,3,4,5] (i7 q230) (G ?_)
   obtain⟨⟨r834,r835,r836,r837⟩,q232,h⟩:=aB h
   refine GO 1 [0,1,2,3,4,5] (i7 q232) (Ge ?_)
   exact eN h (gg [] [0,1,2,3,4,5,1,2,3,4,5])
  refine G (aU h (fun hb155 h=> ?_) (fun hb155 h=> ?_))
  ·obtain⟨⟨r842,r843,r844,r845⟩,q234,h⟩:=aB h
   refine GO 1 [0,1,2,3,4,5] (oB q234) ?_
   obtain⟨⟨r849,r850,r851⟩,q236,h⟩:=aB h
   refine GO 1 [0,1,2,3,4,5] (fI q236) ?_
   obtain⟨⟨r856,r857,r858,r859⟩,q238,h⟩:=aB h
   refine GO 1 [0,1,2,3,4,5] (oB q238) (aD (G (eM h (fun d128=>aQ [(0,.adr 0 0 13 0)] (bJ d1 r857 d3 d4 d5 d6 r858 r859 o1 d128 o3 o4 o5) 6 6) (fun d128 h=> ?_) (fun d128 h=> ?_))))
   ·refine aU h (fun hb157 h=> ?_) (fun hb157 h=> ?_)
    ·obtain⟨c103,c104,h⟩:=g2 h
     refine dT a0 [(7,7,oc c103),(8,8,oc c104)] ?_
     exact eN h (gg [] [0,1,2,3,4,5])
    refine aC ?_
    exact eN h (gg [] [0,1,2,3,4,5])
   refine aA ?_
   obtain⟨⟨r863,r864,r865⟩,q240,h⟩:=aB h
   refine jH 1 [0,1,2,3,4,5] (fI q240) ?_
   exact eN h (gg [] [0,1,2,3,4,5,1,2,3,4,5])
  refine G (aU h (fun hb158 h=> ?_) (fun hb158 h=> ?_))
  ·obtain⟨⟨r872,r873,r874,r875,r876,r877⟩,q242,h⟩:=aB h
   refine jH 2 [0,1,2,3,4,5] (lC q242) ?_
   exact eN h (gg [] [0,1,2,3,4,5,1,2,166,4,5])
  refine G (aU h (fun hb159 h=> ?_) (fun hb159 h=> ?_))
  ·obtain⟨⟨r884,r885,r886,r887,r888,r889⟩,q244,h⟩:=aB h
   refine jH 2 [0,1,2,3,4,5] (lC q244) ?_
   exact eN h (gg [] [0,1,2,3,4,5,1,2,182,4,5])
  refine G (aU h (fun hb160 h=> ?_) (fun hb160 h=> ?_))
  ·obtain⟨⟨r896,r897,r898,r899,r900,r901⟩,q246,h⟩:=aB h
   refine jH 2 [0,1,2,3,4,5] (lC q246) ?_
   exact eN h (gg [] [0,1,2,3,4,5,1,2,198,4,5])
  obtain⟨⟨r904,r905⟩,q248,h⟩:=aB h
  refine jH 2 [0,1,2,3,4,5] (cR q248) ?_
  exact eN h (gg [] [0,1,2,3,4,5,1,2,3,4,5])
 obtain⟨v64,v65,v66,v67,v68,v69,v70,v71,v72,v73,v74,v75⟩:=r906
 refine aO ?_
 obtain rfl:=sI h
 exact(aE [] [] [0,1,2,3,4,5,6,7,8,9,10] [] (aBj d1 v64 v66 v67 v72 v73 v74 v75 v65 v68 v69 v70 v71) 11 6 (by kernel_rfl) (by kernel_rfl) (by kernel_rfl)).normal
def cD(t1:List UInt8):(Int×(List (List UInt8))×Int×Int×(List Int)×(List (Int×Tree×Tree))×(List (List UInt8))×(List Int)×Int×Int×Int×Int)→Option ((Int×(List (List UInt8))×Int×Int×(List Int)×(List (Int×Tree×Tree))×(List (List UInt8))×(List Int)×Int×Int×Int×Int)⊕(Int×(List (List UInt8))×Int×Int×(List Int)×(List (Int×Tree×Tree))×(List (List UInt8))×(List Int)×Int×Int×Int×Int)):=fun(p19,p20,p21,p22,p23,p24,p25,p26,p27,p28,p29,p30) =>
 ((((eG t1 p19 p21 p22 p27 p28 p29 p30 p20 p23 p24 p25 p26).bind fun(r83,r84,r85,r86) =>
 (if(r83 != (0:Int))=true then some ((r84,r85,r86,(r85 == (0:Int))))
 else some ((r84,r85,r86,false))))).bind fun(p43,p44,p45,v3)=>(if v3=true then((iL t1 p43 p21 p22 p27 p28 p44 p45 p20 p23 p24 p25 p26).bind fun(r100,r101,r102,r103,r104,r105,r106,r107,r108,r109,r110,r111) =>
 some (Sum.inl (r100,r101,r102,r103,r104,r105,r106,r107,r108,r109,r110,r111)))
 else some (Sum.inr (p43,p20,p21,p22,p23,p24,p25,p26,p27,p28,p44,p45))))
def nP(t1:List UInt8):Option (((List (List UInt8))×Int×Int×(List Int)×List (Int×Tree×Tree))×Int×Int) :=
 (if(decide ((t1.length:Int) > (4096:Int)))=true then some ((([]:List (List UInt8)),((0:Int),((0:Int),(([]:List Int),([]:List (Int×Tree×Tree)))))),(24:Int),(4096:Int))
 else((iter (cD t1) ((0:Int),([]:List (List UInt8)),(0:Int),(0:Int),([]:List Int),([]:List (Int×Tree×Tree)),([]:List (List UInt8)),([]:List Int),(0:Int),(0:Int),(0:Int),(0:Int))).bind fun(p31,p32,p33,p34,p35,p36,p37,p38,p39,p40,p41,p42)=>(if(p41 != (0:Int))=true then some ((([]:List (List UInt8)),((0:Int),((0:Int),(([]:List Int),([]:List (Int×Tree×Tree)))))),p41,p42)
 else some ((p32,(p33,(p34,(p35,p36)))),(0:Int),(0:Int)))))
theorem B6{t1:List UInt8}{res:((List (List UInt8))×Int×Int×(List Int)×List (Int×Tree×Tree))×Int×Int}(h:nP t1=some res):
  Pure Try.prog 17 [.st t1] (c9 (gJ false [⟨Y4,res.1⟩,⟨(.int .i64),res.2.1⟩,⟨(.int .i64),res.2.2⟩])):=by
 refine Pure.of_body bL Try.func17 (by kernel_rfl) rfl (nl rfl) (fun Bw w0=> ?_) rfl
 unfold nP at h
 refine G (aD (G (aU h (fun hb1 h=> ?_) (fun hb1 h=> ?_))))
 ·refine G (aN (aG ?_))
  obtain rfl:=sI h
  exact aT [Y4,(.int .i64),(.int .i64)] (by kernel_rfl)
 refine aC (aA (G (aD (aK (t7 h (fun(p19,p20,p21,p22,p23,p24,p25,p26,p27,p28,p29,p30)=>aQ [(2,.adr 0 0 5 0),(5,.adr 1 0 13 0)] (aBw (0:Int) (0:Int) t1 p19 p21 p22 p27 p28 p29 p30 p20 p23 p24 p25 p26) 7) 0 (fun(p31,p32,p33,p34,p35,p36,p37,p38,p39,p40,p41,p42)=>aQ [(2,.adr 0 0 5 0),(5,.adr 1 0 13 0)] (aBw (0:Int) (0:Int) t1 p31 p33 p34 p39 p40 p41 p42 p32 p35 p36 p37 p38) 7) (gg [.nilC 64 2 80 9 .str,.nilC 64 5 81 3 (.int .i64),.nilC 64 6 82 52 (.prod (.int .u8) Y1),.nilC 64 7 83 9 .str,.nilC 64 8 84 34 (.int .u32)] [0,64,80,81,82,83,84]) (fun y o h=> ?_) (fun r112 h=> ?_))))))
 ·obtain⟨p19,p20,p21,p22,p23,p24,p25,p26,p27,p28,p29,p30⟩:=y
  unfold cD at h
  refine aD (aD (eM h (fun(p43,p44,p45,v3)=>aQ [(2,.adr 0 0 5 0),(5,.adr 1 0 13 0),(22,.bo v3)] (aBw (0:Int) (0:Int) t1 p43 p21 p22 p27 p28 p44 p45 p20 p23 p24 p25 p26) 7) (fun r87 h=> ?_) (fun r87 h=> ?_)))
  ·obtain⟨⟨r83,r84,r85,r86⟩,q13,h⟩:=aB h
   rcases aW h with⟨hb12,h⟩ | ⟨hb12,h⟩
   ·have u_1:=(gG q13)
    refine dT ⟨[(3,true),(9,true)],[(1,(oO u_1 [1,2,3,4,5,6]))]⟩ [(1,1,oc u_1),(4,8,an hb12),(9,9,oc hb12)] ?_
    exact eN h (gg [] [0,1,2,3,4,5,6])
   have u_1:=(gG q13)
   refine dT ⟨[(3,false),(9,false)],[(1,(oO u_1 [1,2,3,4,5,6]))]⟩ [(1,1,oc u_1),(4,9,oc hb12)] ?_
   exact eN h (gg [] [0,1,2,3,4,5,6])
  obtain⟨p43,p44,p45,v3⟩:=r87
  refine aA (aU h (fun hb13 h=> ?_) (fun hb13 h=> ?_))
  ·refine aC (aA (aK ?_))
   obtain⟨⟨r100,r101,r102,r103,r104,r105,r106,r107,r108,r109,r110,r111⟩,q15,h⟩:=aB h
   refine jH 1 [1,2,3,4,5,6] (xN q15) (aO ?_)
   exact eB h (gg [] [0,1,15,16,17,18,19])
  refine bA (eL ?_)
  exact eX h (gg [] [0,1,2,3,4,5,6])
 obtain⟨p31,p32,p33,p34,p35,p36,p37,p38,p39,p40,p41,p42⟩:=r112
 refine bB (aA (aD (G (aU h (fun hb14 h=> ?_) (fun hb14 h=> ?_)))))
 ·refine GD a0 [] (aN (aG ?_))
  obtain rfl:=sI h
  exact aT [Y4,(.int .i64),(.int .i64)] (by kernel_rfl)
 refine aC (aA (G (aN ?_)))
 obtain rfl:=sI h
 exact aT [Y4,(.int .i64),(.int .i64)] (by kernel_rfl)
def eT(a1 b1:List Int):(Int)→Option ((Int)⊕((Unit)⊕(Bool))):=fun i2 =>
 (if(decide (i2<(a1.length:Int)))=true then(if 0≤i2∧i2<(a1.length:Int)then(if 0≤i2∧i2<(b1.length:Int)then(if((a1.getD i2.toNat (0:Int)) != (b1.getD i2.toNat (0:Int)))=true then some (Sum.inr (Sum.inr false))
 else some (Sum.inl (IntKind.i64.wrap (i2+(1:Int)))))else none)else none)
 else some (Sum.inr (Sum.inl ())))
def jC(a1 b1:List Int):Option (Bool) :=
 (if((a1.length:Int) != (b1.length:Int))=true then some false
 else((iter (eT a1 b1) (0:Int)).bind fun(r2:((Unit)⊕(Bool)))=>match r2 with
 | .inl _=>some true
 | .inr (r1)=>some r1))
theorem nX(β0 β1:Bool){a1:List Int}{b1:List Int}{res:Bool}(h:jC a1 b1=some res):
  Pure Try.prog 24 [.p β0 (.slice (.int .i64)) a1,.p β1 (.slice (.int .i64)) b1] (c9 (gJ false [⟨.bool,res⟩])):=by
 refine Pure.of_body bL Try.func24 (by kernel_rfl) rfl (nl rfl) (fun Bw w0=> ?_) rfl
 unfold jC at h
 refine G (aD (G (aU h (fun hb1 h=> ?_) (fun hb1 h=> ?_))))
 ·refine G (aN (aG ?_))
  obtain rfl:=sI h
  exact aT [.bool] (by kernel_rfl)
 refine aC (aA (aD (G (aK (n0 h (fun i2=>aQ [(0,.p β0 (.slice (.int .i64)) a1),(1,.p β1 (.slice (.int .i64)) b1),(5,.i64 i2)] [] 0) (fT (gR Try.f24.ntmps 0 (fun _=>aQ [] [] 0)) (tR tb Try.f24.results.toList (fun r1=>[⟨.bool,r1⟩]))) (gg [] []) (fun i2 o h=> ?_) (fun r2 h e σ' hq=> ?_))))))
 ·unfold eT at h
  refine aD (G (aU h (fun hb6 h=> ?_) (fun hb6 h=> ?_)))
  ·refine aC (aA (aD (aK ?_)))
   obtain⟨c11,c12,h⟩:=g2 h
   refine GD a0 [(2,2,oc c11),(6,6,oc c12)] (aU h (fun hb7 h=> ?_) (fun hb7 h=> ?_))
   ·refine G (aN ?_)
    obtain rfl:=sI h
    refine aM (aG (dX (aS ?_)))
    exact lN (aT [.bool] (by kernel_rfl))
   refine aC (aO (aA (Ge ?_)))
   exact eB h (gg [] [])
  refine bA (eL ?_)
  obtain rfl:=sI h
  refine fV (cX ?_)
  exact dB (gg [] [])
 rcases r2 with _ | r1
 ·obtain⟨rfl,hle⟩:=hq
  refine fL ?_ hle
  refine bB (aA (G (aN ?_)))
  obtain rfl:=sI h
  exact aT [.bool] (by kernel_rfl)
 obtain⟨rfl,hr⟩:=hq
 refine aM (aG ?_)
 obtain rfl:=sI h
 exact hr
def eP(a3 b3:List Tree)(rec_rr_SameExpr:Int→Int→(List Tree)→Int→Int→(List Tree)→Option (Bool)):(Int)→Option ((Int)⊕((Unit)⊕(Bool))):=fun i2 =>
 (if(decide (i2<(a3.length:Int)))=true then(if 0≤i2∧i2<(a3.length:Int)then(if 0≤i2∧i2<(b3.length:Int)then((rec_rr_SameExpr ((a3.getD i2.toNat (Tree.node 0 0 [])).op) ((a3.getD i2.toNat (Tree.node 0 0 [])).set) ((a3.getD i2.toNat (Tree.node 0 0 [])).kids) ((b3.getD i2.toNat (Tree.node 0 0 [])).op) ((b3.getD i2.toNat (Tree.node 0 0 [])).set) ((b3.getD i2.toNat (Tree.node 0 0 [])).kids)).bind fun r7 =>
 (if(!r7)=true then some (Sum.inr (Sum.inr false))
 else some (Sum.inl (IntKind.i64.wrap (i2+(1:Int))))))else none)else none)
 else some (Sum.inr (Sum.inl ())))
def gH(rec_rr_SameExpr:Int→Int→(List Tree)→Int→Int→(List Tree)→Option (Bool))(a1 a2:Int)(a3:List Tree)(b1 b2:Int)(b3:List Tree):Option (Bool) :=
 (((if(a1 != b1)=true then some (true)
 else(if(a2 != b2)=true then some (true)
 else some (((a3.length:Int) != (b3.length:Int)))))).bind fun v1=>(if v1=true then some false
 else((iter (eP a3 b3 rec_rr_SameExpr) (0:Int)).bind fun(r8:((Unit)⊕(Bool)))=>match r8 with
 | .inl _=>some true
 | .inr (r5)=>some r5)))
def eE:Nat→Int→Int→(List Tree)→Int→Int→(List Tree)→Option (Bool)
 | 0=>fun _ _ _ _ _ _=>none
 | n+1=>gH (eE n)
theorem sK(rec_rr_SameExpr:Int→Int→(List Tree)→Int→Int→(List Tree)→Option (Bool))(hrec_rr_SameExpr:∀(β2 β5:Bool) {a1:Int} {a2:Int} {a3:List Tree} {b1:Int} {b2:Int} {b3:List Tree} {res:Bool},rec_rr_SameExpr a1 a2 a3 b1 b2 b3=some res→Pure Try.prog 25 [.agg [.u8 a1,.u32 a2,.p β2 (.slice (.tree .u8 .u32)) a3],.agg [.u8 b1,.u32 b2,.p β5 (.slice (.tree .u8 .u32)) b3]] (c9 (gJ false [⟨.bool,res⟩])))(β2 β5:Bool){a1:Int}{a2:Int}{a3:List Tree}{b1:Int}{b2:Int}{b3:List Tree}{res:Bool}(h:gH rec_rr_SameExpr a1 a2 a3 b1 b2 b3=some res):
  Pure Try.prog 25 [.agg [.u8 a1,.u32 a2,.p β2 (.slice (.tree .u8 .u32)) a3],.agg [.u8 b1,.u32 b2,.p β5 (.slice (.tree .u8 .u32)) b3]] (c9 (gJ false [⟨.bool,res⟩])):=by
 refine Pure.of_body bL Try.func25 (by kernel_rfl) rfl (nl rfl) (fun Bw w0=> ?_) rfl
 unfold gH at h
 refine G (aD (aD (eM h (fun v1=>aQ [(2,.adr 0 0 3 0),(3,.adr 1 0 3 0),(26,.bo v1)] (aB6 a1 a2 β2 a3 b1 b2 β5 b3) 2) (fun v1 h=> ?_) (fun v1 h=> ?_))))
 ·rcases aW h with⟨hb5,h⟩ | ⟨hb5,h⟩
  ·refine dT ⟨[(5,true),(11,true)],[]⟩ [(6,11,oc hb5)] ?_
   exact eN h (gg [] [0,8])
  rcases aW h with⟨hb6,h⟩ | ⟨hb6,h⟩
  ·refine dT ⟨[(5,false),(11,false),(12,true),(20,true)],[]⟩ [(6,10,an hb5),(11,11,oc hb5),(13,20,oc hb6)] ?_
   exact eN h (gg [] [0,8])
  refine dT ⟨[(5,false),(11,false),(12,false),(20,false)],[]⟩ [(6,10,an hb5),(11,11,oc hb5),(13,19,an hb6),(20,20,oc hb6)] ?_
  exact eN h (gg [] [0,8])
 refine aA (aU h (fun hb7 h=> ?_) (fun hb7 h=> ?_))
 ·refine G (aN (aG ?_))
  obtain rfl:=sI h
  exact aT [.bool] (by kernel_rfl)
 refine aC (aA (aD (G (aK (n0 h (fun i2=>aQ [(2,.adr 0 0 3 0),(3,.adr 1 0 3 0),(5,.i64 i2)] (aB6 a1 a2 β2 a3 b1 b2 β5 b3) 2) (fT (gR Try.f25.ntmps 0 (fun _=>aQ [] [] 0)) (tR tb Try.f25.results.toList (fun r5=>[⟨.bool,r5⟩]))) (gg [] [0,1]) (fun i2 o h=> ?_) (fun r8 h e σ' hq=> ?_))))))
 ·unfold eP at h
  refine aD (G (aU h (fun hb12 h=> ?_) (fun hb12 h=> ?_)))
  ·refine aC (aA (aD (aK ?_)))
   obtain⟨c11,c12,h⟩:=g2 h
   obtain⟨r7,q6,h⟩:=aB h
   have u_1:=(hrec_rr_SameExpr β2 β5 q6)
   refine GD ⟨[],[(10,(oP u_1))]⟩ [(3,3,oc c11),(8,8,oc c12),(10,10,oc u_1)] (aU h (fun hb13 h=> ?_) (fun hb13 h=> ?_))
   ·refine G (aN ?_)
    obtain rfl:=sI h
    refine aM (aG (dX (aS ?_)))
    exact lN (aT [.bool] (by kernel_rfl))
   refine aC (aO (aA (Ge ?_)))
   exact eB h (gg [] [0,1])
  refine bA (eL ?_)
  obtain rfl:=sI h
  refine fV (cX ?_)
  exact dB (gg [] [])
 rcases r8 with _ | r5
 ·obtain⟨rfl,hle⟩:=hq
  refine fL ?_ hle
  refine bB (aA (G (aN ?_)))
  obtain rfl:=sI h
  exact aT [.bool] (by kernel_rfl)
 obtain⟨rfl,hr⟩:=hq
 refine aM (aG ?_)
 obtain rfl:=sI h
 exact hr
theorem iE:∀(n:Nat) (β2 β5:Bool) {a1:Int} {a2:Int} {a3:List Tree} {b1:Int} {b2:Int} {b3:List Tree} {res:Bool},eE n a1 a2 a3 b1 b2 b3=some res→Pure Try.prog 25 [.agg [.u8 a1,.u32 a2,.p β2 (.slice (.tree .u8 .u32)) a3],.agg [.u8 b1,.u32 b2,.p β5 (.slice (.tree .u8 .u32)) b3]] (c9 (gJ false [⟨.bool,res⟩]))
 | 0,_,_,_,_,_,_,_,_,_,h=>by cases h
 | n+1,β2,β5,a1,a2,a3,b1,b2,b3,res,h=>sK (eE n) (iE n) β2 β5 h
def dY(d1 i1:List (List UInt8)):(Int)→Option ((Int)⊕((Unit)⊕(Bool))):=fun v3 =>
 (if(decide (v3<(d1.length:Int)))=true then(if 0≤v3∧v3<(d1.length:Int)then(if 0≤v3∧v3<(i1.length:Int)then(if(!((d1.getD v3.toNat ([]:List UInt8)) == (i1.getD v3.toNat ([]:List UInt8))))=true then some (Sum.inr (Sum.inr false))
 else some (Sum.inl (IntKind.i64.wrap (v3+(1:Int)))))else none)else none)
 else some (Sum.inr (Sum.inl ())))
def dW(d5 i5:List (Int×Tree×Tree)):(Int)→Option ((Int)⊕((Unit)⊕(Bool))):=fun v7 =>
 (if(decide (v7<(d5.length:Int)))=true then(((if 0≤v7∧v7<(d5.length:Int)then(if 0≤v7∧v7<(i5.length:Int)then(if(((d5.getD v7.toNat ((0:Int),((Tree.node 0 0 []),(Tree.node 0 0 [])))).1) != ((i5.getD v7.toNat ((0:Int),((Tree.node 0 0 []),(Tree.node 0 0 [])))).1))=true then some (true)
 else(if 0≤v7∧v7<(d5.length:Int)then(if 0≤v7∧v7<(i5.length:Int)then((eE 1000 (((d5.getD v7.toNat ((0:Int),((Tree.node 0 0 []),(Tree.node 0 0 [])))).2.1).op) (((d5.getD v7.toNat ((0:Int),((Tree.node 0 0 []),(Tree.node 0 0 [])))).2.1).set) (((d5.getD v7.toNat ((0:Int),((Tree.node 0 0 []),(Tree.node 0 0 [])))).2.1).kids) (((i5.getD v7.toNat ((0:Int),((Tree.node 0 0 []),(Tree.node 0 0 [])))).2.1).op) (((i5.getD v7.toNat ((0:Int),((Tree.node 0 0 []),(Tree.node 0 0 [])))).2.1).set) (((i5.getD v7.toNat ((0:Int),((Tree.node 0 0 []),(Tree.node 0 0 [])))).2.1).kids)).bind fun r23 =>
 (if(!r23)=true then some (true)
 else(if 0≤v7∧v7<(d5.length:Int)then(if 0≤v7∧v7<(i5.length:Int)then((eE 1000 (((d5.getD v7.toNat ((0:Int),((Tree.node 0 0 []),(Tree.node 0 0 [])))).2.2).op) (((d5.getD v7.toNat ((0:Int),((Tree.node 0 0 []),(Tree.node 0 0 [])))).2.2).set) (((d5.getD v7.toNat ((0:Int),((Tree.node 0 0 []),(Tree.node 0 0 [])))).2.2).kids) (((i5.getD v7.toNat ((0:Int),((Tree.node 0 0 []),(Tree.node 0 0 [])))).2.2).op) (((i5.getD v7.toNat ((0:Int),((Tree.node 0 0 []),(Tree.node 0 0 [])))).2.2).set) (((i5.getD v7.toNat ((0:Int),((Tree.node 0 0 []),(Tree.node 0 0 [])))).2.2).kids)).bind fun r24 =>
 some ((!r24)))else none)else none)))else none)else none))else none)else none)).bind fun v8=>(if v8=true then some (Sum.inr (Sum.inr false))
 else some (Sum.inl (IntKind.i64.wrap (v7+(1:Int))))))
 else some (Sum.inr (Sum.inl ())))
def iC(d1:List (List UInt8))(d2 d3:Int)(d4:List Int)(d5:List (Int×Tree×Tree))(i1:List (List UInt8))(i2 i3:Int)(i4:List Int)(i5:List (Int×Tree×Tree)):Option (Bool) :=
 (((if((d1.length:Int) != (i1.length:Int))=true then some (true)
 else(if(d2 != i2)=true then some (true)
 else(if(d3 != i3)=true then some (true)
 else((jC d4 i4).bind fun r3 =>
 (if(!r3)=true then some (true)
 else some (((d5.length:Int) != (i5.length:Int))))))))).bind fun v1=>(if v1=true then some false
 else((iter (dY d1 i1) (0:Int)).bind fun(r5:((Unit)⊕(Bool)))=>match r5 with
 | .inl _=>((iter (dW d5 i5) (0:Int)).bind fun(r25:((Unit)⊕(Bool)))=>match r25 with
 | .inl _=>some true
 | .inr (r18)=>some r18)
 | .inr (r4)=>some r4)))
theorem uC(β0 β3 β4 β5 β8 β9:Bool){d1:List (List UInt8)}{d2:Int}{d3:Int}{d4:List Int}{d5:List (Int×Tree×Tree)}{i1:List (List UInt8)}{i2:Int}{i3:Int}{i4:List Int}{i5:List (Int×Tree×Tree)}{res:Bool}(h:iC d1 d2 d3 d4 d5 i1 i2 i3 i4 i5=some res):
  Pure Try.prog 14 [.agg [.p β0 (.slice .str) d1,.u32 d2,.u32 d3,.p β3 (.slice (.int .i64)) d4,.p β4 (.slice (.prod (.int .u8) Y1)) d5],.agg [.p β5 (.slice .str) i1,.u32 i2,.u32 i3,.p β8 (.slice (.int .i64)) i4,.p β9 (.slice (.prod (.int .u8) Y1)) i5]] (c9 (gJ false [⟨.bool,res⟩])):=by
 refine Pure.of_body bL Try.func14 (by kernel_rfl) rfl (nl rfl) (fun Bw w0=> ?_) rfl
 unfold iC at h
 refine G (aD (aD (eM h (fun v1=>aQ [(2,.adr 0 0 5 0),(3,.adr 1 0 5 0),(44,.bo v1)] (T4 β0 d1 d2 d3 β3 d4 β4 d5 β5 i1 i2 i3 β8 i4 β9 i5) 2) (fun v1 h=> ?_) (fun v1 h=> ?_))))
 ·rcases aW h with⟨hb9,h⟩ | ⟨hb9,h⟩
  ·refine dT ⟨[(7,true),(13,true)],[]⟩ [(8,13,oc hb9)] ?_
   exact eN h (gg [] [0,8])
  rcases aW h with⟨hb10,h⟩ | ⟨hb10,h⟩
  ·refine dT ⟨[(7,false),(13,false),(14,true),(20,true)],[]⟩ [(8,12,an hb9),(13,13,oc hb9),(15,20,oc hb10)] ?_
   exact eN h (gg [] [0,8])
  rcases aW h with⟨hb11,h⟩ | ⟨hb11,h⟩
  ·refine dT ⟨[(7,false),(13,false),(14,false),(20,false),(21,true),(28,true)],[]⟩ [(8,12,an hb9),(13,13,oc hb9),(15,19,an hb10),(20,20,oc hb10),(22,28,oc hb11)] ?_
   exact eN h (gg [] [0,8])
  obtain⟨r3,q3,h⟩:=aB h
  rcases aW h with⟨hb12,h⟩ | ⟨hb12,h⟩
  ·have u_1:=(nX β3 β8 q3)
   refine dT ⟨[(7,false),(13,false),(14,false),(20,false),(21,false),(28,false),(29,true),(37,true)],[(26,(oP u_1))]⟩ [(8,12,an hb9),(13,13,oc hb9),(15,19,an hb10),(20,20,oc hb10),(22,25,an hb11),(26,26,oc (And.intro hb11 u_1)),(27,27,an hb11),(28,28,oc hb11),(30,37,oc hb12)] ?_
   exact eN h (gg [] [0,8])
  have u_1:=(nX β3 β8 q3)
  refine dT ⟨[(7,false),(13,false),(14,false),(20,false),(21,false),(28,false),(29,false),(37,false)],[(26,(oP u_1))]⟩ [(8,12,an hb9),(13,13,oc hb9),(15,19,an hb10),(20,20,oc hb10),(22,25,an hb11),(26,26,oc (And.intro hb11 u_1)),(27,27,an hb11),(28,28,oc hb11),(30,36,an hb12),(37,37,oc hb12)] ?_
  exact eN h (gg [] [0,8])
 refine aA (aU h (fun hb13 h=> ?_) (fun hb13 h=> ?_))
 ·refine G (aN (aG ?_))
  obtain rfl:=sI h
  exact aT [.bool] (by kernel_rfl)
 refine aC (aA (aD (G (aK (n0 h (fun v3=>aQ [(2,.adr 0 0 5 0),(3,.adr 1 0 5 0),(5,.i64 v3)] (T4 β0 d1 d2 d3 β3 d4 β4 d5 β5 i1 i2 i3 β8 i4 β9 i5) 2) (fT (gR Try.f14.ntmps 0 (fun _=>aQ [(2,.adr 0 0 5 0),(3,.adr 1 0 5 0)] (T4 β0 d1 d2 d3 β3 d4 β4 d5 β5 i1 i2 i3 β8 i4 β9 i5) 2)) (tR tb Try.f14.results.toList (fun r4=>[⟨.bool,r4⟩]))) (gg [] [0,1]) (fun v3 o h=> ?_) (fun r5 h e σ' hq=> ?_))))))
 ·unfold dY at h
  refine aD (G (aU h (fun hb18 h=> ?_) (fun hb18 h=> ?_)))
  ·refine aC (aA (aD (aK ?_)))
   obtain⟨c11,c12,h⟩:=g2 h
   refine GD a0 [(3,3,oc c11),(8,8,oc c12)] (aU h (fun hb19 h=> ?_) (fun hb19 h=> ?_))
   ·refine G (aN ?_)
    obtain rfl:=sI h
    refine aM (aG (dX (aS ?_)))
    exact lN (aT [.bool] (by kernel_rfl))
   refine aC (aO (aA (Ge ?_)))
   exact eB h (gg [] [0,1])
  refine bA (eL ?_)
  obtain rfl:=sI h
  refine fV (cX ?_)
  exact dB (gg [] [0,1])
 rcases r5 with _ | r4
 ·obtain⟨rfl,hle⟩:=hq
  refine fL ?_ hle
  refine bB (aA (aD (G (aK (n0 h (fun v7=>aQ [(2,.adr 0 0 5 0),(3,.adr 1 0 5 0),(6,.i64 v7)] (T4 β0 d1 d2 d3 β3 d4 β4 d5 β5 i1 i2 i3 β8 i4 β9 i5) 2) (fT (gR Try.f14.ntmps 2 (fun _=>aQ [] [] 0)) (tR tb Try.f14.results.toList (fun r18=>[⟨.bool,r18⟩]))) (gg [] [0,1]) (fun v7 o h=> ?_) (fun r25 h e σ' hq=> ?_))))))
  ·unfold dW at h
   refine aD (G (aU h (fun hb36 h=> ?_) (fun hb36 h=> ?_)))
   ·refine aC (aA (aD (aK (aD (eM h (fun v8=>aQ [(2,.adr 0 0 5 0),(3,.adr 1 0 5 0),(6,.i64 v7),(114,.bo v8)] (T4 β0 d1 d2 d3 β3 d4 β4 d5 β5 i1 i2 i3 β8 i4 β9 i5) 2) (fun v8 h=> ?_) (fun v8 h=> ?_))))))
    ·obtain⟨c61,c62,h⟩:=g2 h
     rcases aW h with⟨hb41,h⟩ | ⟨hb41,h⟩
     ·refine yT ⟨[(13,true),(28,true)],[]⟩ [(3,3,oc c61),(9,9,oc c62),(14,28,oc hb41)] ?_
      exact eN h (gg [] [0,1])
     obtain⟨c63,c64,h⟩:=g2 h
     obtain⟨r23,q20,h⟩:=aB h
     rcases aW h with⟨hb42,h⟩ | ⟨hb42,h⟩
     ·have u_1:=(iE 1000 β4 β9 q20)
      refine yT ⟨[(13,false),(28,false),(29,true),(44,true)],[(26,(oP u_1))]⟩ [(3,3,oc c61),(9,9,oc c62),(14,16,an hb41),(17,17,oc (And.intro hb41 c63)),(18,22,an hb41),(23,23,oc (And.intro hb41 c64)),(24,25,an hb41),(26,26,oc (And.intro hb41 u_1)),(27,27,an hb41),(28,28,oc hb41),(30,44,oc hb42)] ?_
      exact eN h (gg [] [0,1])
     obtain⟨c65,c66,h⟩:=g2 h
     obtain⟨r24,q21,h⟩:=aB h
     have u_1:=(iE 1000 β4 β9 q20)
     have u_2:=(iE 1000 β4 β9 q21)
     refine yT ⟨[(13,false),(28,false),(29,false),(44,false)],[(26,(oP u_1)),(42,(oP u_2))]⟩ [(3,3,oc c61),(9,9,oc c62),(14,16,an hb41),(17,17,oc (And.intro hb41 c63)),(18,22,an hb41),(23,23,oc (And.intro hb41 c64)),(24,25,an hb41),(26,26,oc (And.intro hb41 u_1)),(27,27,an hb41),(28,28,oc hb41),(30,32,an hb42),(33,33,oc (And.intro hb42 c65)),(34,38,an hb42),(39,39,oc (And.intro hb42 c66)),(40,41,an hb42),(42,42,oc (And.intro hb42 u_2)),(43,43,an hb42),(44,44,oc hb42)] ?_
     exact eN h (gg [] [0,1])
    refine aA (aU h (fun hb43 h=> ?_) (fun hb43 h=> ?_))
    ·refine G (aN ?_)
     obtain rfl:=sI h
     refine aM (aG (dX (aS ?_)))
     exact lN (aT [.bool] (by kernel_rfl))
    refine aC (aO (aA (Ge ?_)))
    exact eB h (gg [] [0,1])
   refine bA (eL ?_)
   obtain rfl:=sI h
   refine fV (cX ?_)
   exact dB (gg [] [])
  rcases r25 with _ | r18
  ·obtain⟨rfl,hle⟩:=hq
   refine fL ?_ hle
   refine bB (aA (G (aN ?_)))
   obtain rfl:=sI h
   exact aT [.bool] (by kernel_rfl)
  obtain⟨rfl,hr⟩:=hq
  refine aM (aG ?_)
  obtain rfl:=sI h
  exact hr
 obtain⟨rfl,hr⟩:=hq
 refine aM (aG ?_)
 obtain rfl:=sI h
 exact hr
def rU(t1:List UInt8):Option (Bool) :=
 ((d9 t1).bind fun(r3,r4) =>
 ((nP t1).bind fun(r8,r9,r10) =>
 (((if(r4.1 == r9)=true then(if(r4.2 == r10)=true then((iC r3.1 r3.2.1 r3.2.2.1 r3.2.2.2.1 r3.2.2.2.2 r8.1 r8.2.1 r8.2.2.1 r8.2.2.2.1 r8.2.2.2.2).bind fun r13 =>
 some (r13))
 else some (false))
 else some (false))).bind fun v1=>some v1)))
theorem J5{t1:List UInt8}{res:Bool}(h:rU t1=some res):
  Pure Try.prog 11 [.st t1] (c9 (gJ false [⟨.bool,res⟩])):=by
 refine Pure.of_body bL Try.func11 (by kernel_rfl) rfl (nl rfl) (fun Bw w0=> ?_) rfl
 unfold rU at h
 refine G ?_
 obtain⟨⟨r3,r4⟩,q2,h⟩:=aB h
 refine GP 1 (fW q2) ?_
 obtain⟨⟨r8,r9,r10⟩,q4,h⟩:=aB h
 refine GP 1 (B6 q4) (aD (eM h (fun v1=>aQ [(2,.bo v1)] [] 0) (fun v1 h=> ?_) (fun v1 h=> ?_)))
 ·rcases aW h with⟨hb5,h⟩ | ⟨hb5,h⟩
  ·rcases aW h with⟨hb6,h⟩ | ⟨hb6,h⟩
   ·obtain⟨r13,q7,h⟩:=aB h
    have u_1:=(uC false false false false false false q7)
    refine dT ⟨[(4,true),(9,true),(10,true),(14,true)],[(13,(oP u_1))]⟩ [(5,8,an hb5),(9,9,oc hb5),(11,12,an hb6),(13,13,oc (And.intro hb6 u_1)),(14,14,oc hb6)] ?_
    exact eN h (gg [] [])
   refine dT ⟨[(4,true),(9,true),(10,false),(14,false)],[]⟩ [(5,8,an hb5),(9,9,oc hb5),(11,14,oc hb6)] ?_
   exact eN h (gg [] [])
  refine dT ⟨[(4,false),(9,false)],[]⟩ [(5,9,oc hb5)] ?_
  exact eN h (gg [] [])
 refine aA (aN ?_)
 obtain rfl:=sI h
 exact aT [.bool] (by kernel_rfl)
def cM(i1 x1:List Int):((List Int)×Int)→Option (((List Int)×Int)⊕(List Int)):=fun(v7,v8) =>
 (((if(decide (v8<(i1.length:Int)))=true then(if(decide (v8<(x1.length:Int)))=true then some ((decide (v8<(4:Int))))
 else some (false))
 else some (false))).bind fun v10=>(if v10=true then(if 0≤v8∧v8<(i1.length:Int)then(if ¬(IntKind.u64.wrap (v7.length:Int))=0 then(if 0≤v8∧v8<(x1.length:Int)then(if ¬(2:Int)=0 then(if ¬(19:Int)=0 then(if 0≤(Int.tmod (IntKind.i64.wrap (IntKind.u8.wrap (Int.tdiv (x1.getD v8.toNat (0:Int)) (2:Int)))) (19:Int))∧(Int.tmod (IntKind.i64.wrap (IntKind.u8.wrap (Int.tdiv (x1.getD v8.toNat (0:Int)) (2:Int)))) (19:Int))<(([40,41,91,93,94,124,42,43,63,46,59,47,61,65,66,32,35,10,33]:List UInt8).length:Int)then(if 0≤v8∧v8<(x1.length:Int)then(if ¬(2:Int)=0 then(((if((Int.tmod (x1.getD v8.toNat (0:Int)) (2:Int)) == (0:Int))=true then(if 0≤(IntKind.i64.wrap (Int.tmod (IntKind.u64.wrap (i1.getD v8.toNat (0:Int))) (IntKind.u64.wrap (v7.length:Int))))∧(IntKind.i64.wrap (Int.tmod (IntKind.u64.wrap (i1.getD v8.toNat (0:Int))) (IntKind.u64.wrap (v7.length:Int))))<(v7.length:Int)then(if(IntKind.i64.wrap (Int.tmod (IntKind.u64.wrap (i1.getD v8.toNat (0:Int))) (IntKind.u64.wrap (v7.length:Int)))).toNat<v7.length then some ((v7.set ((IntKind.i64.wrap (Int.tmod (IntKind.u64.wrap (i1.getD v8.toNat (0:Int))) (IntKind.u64.wrap (v7.length:Int)))).toNat) ((([40,41,91,93,94,124,42,43,63,46,59,47,61,65,66,32,35,10,33]:List UInt8).getD (Int.tmod (IntKind.i64.wrap (IntKind.u8.wrap (Int.tdiv (x1.getD v8.toNat (0:Int)) (2:Int)))) (19:Int)).toNat 0).toNat:Int)))else none)else none)
 else(if 0≤(IntKind.i64.wrap (Int.tmod (IntKind.u64.wrap (i1.getD v8.toNat (0:Int))) (IntKind.u64.wrap (v7.length:Int))))∧(IntKind.i64.wrap (Int.tmod (IntKind.u64.wrap (i1.getD v8.toNat (0:Int))) (IntKind.u64.wrap (v7.length:Int))))=(IntKind.i64.wrap (Int.tmod (IntKind.u64.wrap (i1.getD v8.toNat (0:Int))) (IntKind.u64.wrap (v7.length:Int))))∧(IntKind.i64.wrap (Int.tmod (IntKind.u64.wrap (i1.getD v8.toNat (0:Int))) (IntKind.u64.wrap (v7.length:Int))))≤(v7.length:Int)then(if 0≤(IntKind.i64.wrap (Int.tmod (IntKind.u64.wrap (i1.getD v8.toNat (0:Int))) (IntKind.u64.wrap (v7.length:Int))))∧(IntKind.i64.wrap (Int.tmod (IntKind.u64.wrap (i1.getD v8.toNat (0:Int))) (IntKind.u64.wrap (v7.length:Int))))≤(v7.length:Int)∧(v7.length:Int)≤(v7.length:Int)then(if(([((([40,41,91,93,94,124,42,43,63,46,59,47,61,65,66,32,35,10,33]:List UInt8).getD (Int.tmod (IntKind.i64.wrap (IntKind.u8.wrap (Int.tdiv (x1.getD v8.toNat (0:Int)) (2:Int)))) (19:Int)).toNat 0).toNat:Int)]:List Int).length+((v7.take (v7.length:Int).toNat).drop (IntKind.i64.wrap (Int.tmod (IntKind.u64.wrap (i1.getD v8.toNat (0:Int))) (IntKind.u64.wrap (v7.length:Int)))).toNat).length)*1≤140737488355328∧([((([40,41,91,93,94,124,42,43,63,46,59,47,61,65,66,32,35,10,33]:List UInt8).getD (Int.tmod (IntKind.i64.wrap (IntKind.u8.wrap (Int.tdiv (x1.getD v8.toNat (0:Int)) (2:Int)))) (19:Int)).toNat 0).toNat:Int)]:List Int).length+((v7.take (v7.length:Int).toNat).drop (IntKind.i64.wrap (Int.tmod (IntKind.u64.wrap (i1.getD v8.toNat (0:Int))) (IntKind.u64.wrap (v7.length:Int)))).toNat).length≤9223372036854775807 then(if 0<(([((([40,41,91,93,94,124,42,43,63,46,59,47,61,65,66,32,35,10,33]:List UInt8).getD (Int.tmod (IntKind.i64.wrap (IntKind.u8.wrap (Int.tdiv (x1.getD v8.toNat (0:Int)) (2:Int)))) (19:Int)).toNat 0).toNat:Int)]:List Int)++((v7.take (v7.length:Int).toNat).drop (IntKind.i64.wrap (Int.tmod (IntKind.u64.wrap (i1.getD v8.toNat (0:Int))) (IntKind.u64.wrap (v7.length:Int)))).toNat)).length∧((v7.take (IntKind.i64.wrap (Int.tmod (IntKind.u64.wrap (i1.getD v8.toNat (0:Int))) (IntKind.u64.wrap (v7.length:Int)))).toNat).length+(([((([40,41,91,93,94,124,42,43,63,46,59,47,61,65,66,32,35,10,33]:List UInt8).getD (Int.tmod (IntKind.i64.wrap (IntKind.u8.wrap (Int.tdiv (x1.getD v8.toNat (0:Int)) (2:Int)))) (19:Int)).toNat 0).toNat:Int)]:List Int)++((v7.take (v7.length:Int).toNat).drop (IntKind.i64.wrap (Int.tmod (IntKind.u64.wrap (i1.getD v8.toNat (0:Int))) (IntKind.u64.wrap (v7.length:Int)))).toNat)).length)*1≤140737488355328∧(v7.take (IntKind.i64.wrap (Int.tmod (IntKind.u64.wrap (i1.getD v8.toNat (0:Int))) (IntKind.u64.wrap (v7.length:Int)))).toNat).length+(([((([40,41,91,93,94,124,42,43,63,46,59,47,61,65,66,32,35,10,33]:List UInt8).getD (Int.tmod (IntKind.i64.wrap (IntKind.u8.wrap (Int.tdiv (x1.getD v8.toNat (0:Int)) (2:Int)))) (19:Int)).toNat 0).toNat:Int)]:List Int)++((v7.take (v7.length:Int).toNat).drop (IntKind.i64.wrap (Int.tmod (IntKind.u64.wrap (i1.getD v8.toNat (0:Int))) (IntKind.u64.wrap (v7.length:Int)))).toNat)).length≤9223372036854775807 then some (((v7.take (IntKind.i64.wrap (Int.tmod (IntKind.u64.wrap (i1.getD v8.toNat (0:Int))) (IntKind.u64.wrap (v7.length:Int)))).toNat)++(([((([40,41,91,93,94,124,42,43,63,46,59,47,61,65,66,32,35,10,33]:List UInt8).getD (Int.tmod (IntKind.i64.wrap (IntKind.u8.wrap (Int.tdiv (x1.getD v8.toNat (0:Int)) (2:Int)))) (19:Int)).toNat 0).toNat:Int)]:List Int)++((v7.take (v7.length:Int).toNat).drop (IntKind.i64.wrap (Int.tmod (IntKind.u64.wrap (i1.getD v8.toNat (0:Int))) (IntKind.u64.wrap (v7.length:Int)))).toNat))))else none)else none)else none)else none))).bind fun v11=>some (Sum.inl (v11,(IntKind.i64.wrap (v8+(1:Int))))))else none)else none)else none)else none)else none)else none)else none)else none)
 else some (Sum.inr v7)))
def iB(d1 d2 d3:Int)(d4:List Int)(d5:List (Int×(List Int)×List Int))(i1 x1:List Int):Option (Bool) :=
 ((rB).bind fun r2 =>
 (if(!r2)=true then some false
 else((q9 d1 d2 d3 d4 d5).bind fun r4 =>
 ((iter (cM i1 x1) ((gF r4),(0:Int))).bind fun v9=>((rU (iV v9)).bind fun r6 =>
 some r6)))))
theorem lq_RulesTurned_ok(β3 β5 β6:Bool){d1:Int}{d2:Int}{d3:Int}{d4:List Int}{d5:List (Int×(List Int)×List Int)}{i1:List Int}{x1:List Int}{res:Bool}(h:iB d1 d2 d3 d4 d5 i1 x1=some res):
  Pure Try.prog 4 [.agg [.u8 d1,.u8 d2,.u8 d3,.p β3 (.slice (.int .u8)) d4,.p false (.slice (.prod (.int .u8) Y6)) d5],.p β5 (.slice (.int .i64)) i1,.p β6 (.slice (.int .u8)) x1] (c9 (gJ false [⟨.bool,res⟩])):=by
 refine Pure.of_body bL Try.func4 (by kernel_rfl) rfl (nl rfl) (fun Bw w0=> ?_) rfl
 unfold iB at h
 refine G (aD ?_)
 obtain⟨r2,q2,h⟩:=aB h
 refine GP 0 (D7 q2) (aU h (fun hb1 h=> ?_) (fun hb1 h=> ?_))
 ·refine G (aN (aG ?_))
  obtain rfl:=sI h
  exact aT [.bool] (by kernel_rfl)
 refine aC (aA ?_)
 obtain⟨r4,q4,h⟩:=aB h
 have u_1:=(J4 β3 q4)
 refine GN ⟨[],[(1,(oP u_1)),(2,⟨.unk,[],false,[],[],[],none⟩)]⟩ [(1,1,oc u_1)] (aD (G (aK (t7 h (fun(v7,v8)=>aQ [(1,.p β5 (.slice (.int .i64)) i1),(2,.p β6 (.slice (.int .u8)) x1),(7,.sl 0),(8,.i64 v8)] [(0,.bytes 5 v7)] 1) 0 (fun v9=>aQ [(7,.sl 0)] [(0,.bytes 5 v9)] 1) (gg [] [48]) (fun y o h=> ?_) (fun v9 h=> ?_)))))
 ·obtain⟨v7,v8⟩:=y
  unfold cM at h
  refine aD (aD (eM h (fun v10=>aQ [(1,.p β5 (.slice (.int .i64)) i1),(2,.p β6 (.slice (.int .u8)) x1),(7,.sl 0),(8,.i64 v8),(29,.bo v10)] [(0,.bytes 5 v7)] 1) (fun v10 h=> ?_) (fun v10 h=> ?_)))
  ·rcases aW h with⟨hb24,h⟩ | ⟨hb24,h⟩
   ·rcases aW h with⟨hb25,h⟩ | ⟨hb25,h⟩
    ·refine dT ⟨[(4,true),(9,true),(10,true),(13,true)],[]⟩ [(5,8,an hb24),(9,9,oc hb24),(11,12,an hb25),(13,13,oc hb25)] ?_
     exact eN h (gg [] [0])
    refine dT ⟨[(4,true),(9,true),(10,false),(13,false)],[]⟩ [(5,8,an hb24),(9,9,oc hb24),(11,13,oc hb25)] ?_
    exact eN h (gg [] [0])
   refine dT ⟨[(4,false),(9,false)],[]⟩ [(5,9,oc hb24)] ?_
   exact eN h (gg [] [0])
  refine aA (aU h (fun hb26 h=> ?_) (fun hb26 h=> ?_))
  ·refine aC (aA (aD (aK ?_)))
   obtain⟨c83,c84,h⟩:=g2 h
   refine GN a0 [(2,2,oc c83),(8,8,oc c84)] ?_
   obtain⟨c89,c90,c91,c92,h⟩:=g4 h
   refine GN a0 [(2,2,oc c89),(4,4,oc c90),(6,6,oc c91),(7,7,oc c92)] ?_
   obtain⟨c95,c96,h⟩:=g2 h
   refine GN a0 [(2,2,oc c95),(4,4,oc c96)] (eM h (fun v11=>aQ [(1,.p β5 (.slice (.int .i64)) i1),(2,.p β6 (.slice (.int .u8)) x1),(7,.sl 0),(8,.i64 v8)] [(0,.bytes 5 v11)] 1) (fun v11 h=> ?_) (fun v11 h=> ?_))
   ·refine aU h (fun hb28 h=> ?_) (fun hb28 h=> ?_)
    ·obtain⟨c111,c112,h⟩:=g2 h
     refine dT a0 [(3,3,oc c111),(4,4,oc c112)] ?_
     exact eN h (gg [] [0])
    refine aCo [.frzS 7,.frzS 37] (by kernel_rfl) ?_
    obtain⟨c117,c118,c119,c120,h⟩:=g4 h
    refine yT ⟨[],[(3,⟨.unk,[],false,[],[],[],none⟩)]⟩ [(3,3,oc c117),(8,8,oc c118),(9,9,oc c119),(10,10,oc c120)] ?_
    exact eN h (gg [.toB 289] [289])
   refine aO (aA (Ge ?_))
   exact eB h (gg [] [0])
  refine bA (eL ?_)
  exact eX h (gg [] [0])
 refine bB (aA ?_)
 obtain⟨r6,q6,h⟩:=aB h
 refine GP 2 (J5 q6) (aN ?_)
 obtain rfl:=sI h
 exact aT [.bool] (by kernel_rfl)
end
end Go.Proofs.Ytjfjigknkhgkdaa.T
