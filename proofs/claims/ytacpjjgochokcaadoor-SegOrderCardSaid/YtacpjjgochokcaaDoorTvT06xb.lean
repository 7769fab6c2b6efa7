/- Functions of the program as functions on data, and that the program's own come to them. -/
import Derived.Test.YtacpjjgochokcaaDoorTvT06x0
import Derived.Test.YtacpjjgochokcaaDoorTvT06xa
namespace Go.Proofs.YtacpjjgochokcaaDoor.T
open Go Go.Tv Go.Proofs
noncomputable section
set_option maxRecDepth 100000
set_option maxHeartbeats 4000000
def jW(p1 p2 p3:Int)(p4:List Int)(p5:List (Int×(List Int)×List Int)):Option (Int) :=
 (if ¬(6:Int)=0 then some (IntKind.i64.wrap ((1:Int)+(IntKind.i64.wrap (Int.tmod p1 (6:Int)))))else none)
theorem yY(β3 β4:Bool){p1:Int}{p2:Int}{p3:Int}{p4:List Int}{p5:List (Int×(List Int)×List Int)}{res:Int}(h:jW p1 p2 p3 p4 p5=some res):
  Pure Tryd.prog 13 [.agg [.u8 p1,.u8 p2,.u8 p3,.p β3 (.slice (.int .u8)) p4,.p β4 (.slice (.prod (.int .u8) Y11)) p5]] (b8 (fR false [⟨(.int .i64),res⟩])):=by
 refine Pure.of_body bH Tryd.func13 (by kernel_rfl) rfl (nl rfl) (fun Bw w0=> ?_) rfl
 unfold jW at h
 refine G (GC 2 h (fun h=>aQ ?_))
 obtain rfl:=sI h
 exact aK [(.int .i64)] (by kernel_rfl)
def mC(n1 i1:Int):Option (List UInt8) :=
 (if ¬n1=0 then some (cK ([(IntKind.u8.wrap (IntKind.i64.wrap ((65:Int)+(Int.tmod i1 n1))))]:List Int))else none)
theorem oU{n1:Int}{i1:Int}{res:List UInt8}(h:mC n1 i1=some res):
  Pure Tryd.prog 25 [.i64 n1,.i64 i1] (b8 (fR false [⟨.str,res⟩])):=by
 refine Pure.of_body bH Tryd.func25 (by kernel_rfl) rfl (nl rfl) (fun Bw w0=> ?_) rfl
 unfold mC at h
 refine G (GC 2 h (fun h=>aQ ?_))
 obtain rfl:=sI h
 exact aK [.str] (by kernel_rfl)
def kG(n1 bits1:Int):((List UInt8)×Int)→Option (((List UInt8)×Int)⊕(List UInt8)):=fun(out4,i2) =>
 (if(decide (i2<n1))=true then(if 0≤i2 then(if ¬(2:Int)=0 then(((if((Int.tmod (Int.fdiv bits1 (2 ^ (min i2.toNat IntKind.u8.bits))) (2:Int)) == (1:Int))=true then(if out4.length+([32]:List UInt8).length≤9223372036854775807 then((mC n1 i2).bind fun r12 =>
 (if(out4++([32]:List UInt8)).length+r12.length≤9223372036854775807 then some (((out4++([32]:List UInt8))++r12))else none))else none)
 else some (out4))).bind fun out6=>some (Sum.inl (out6,(IntKind.i64.wrap (i2+(1:Int))))))else none)else none)
 else some (Sum.inr out4))
def iA(n1 bits1:Int):Option (List UInt8) :=
 ((iter (kG n1 bits1) (([]:List UInt8),(0:Int))).bind fun out5=>some out5)
theorem mQ{n1:Int}{bits1:Int}{res:List UInt8}(h:iA n1 bits1=some res):
  Pure Tryd.prog 24 [.i64 n1,.u8 bits1] (b8 (fR false [⟨.str,res⟩])):=by
 refine Pure.of_body bH Tryd.func24 (by kernel_rfl) rfl (nl rfl) (fun Bw w0=> ?_) rfl
 unfold iA at h
 refine G (G (aD (G (aF (iK h (fun(out4,i2)=>aL [(0,.i64 n1),(1,.u8 bits1),(5,.st out4),(6,.i64 i2)] [] 0) 0 (fun out5=>aL [(5,.st out5)] [] 0) (gg [] []) (fun y o h=> ?_) (fun out5 h=> ?_))))))
 ·obtain⟨out4,i2⟩:=y
  unfold kG at h
  refine aD (G (aS h (fun hb7 h=> ?_) (fun hb7 h=> ?_)))
  ·refine aB (aA (aD (aF ?_)))
   obtain⟨c27,c28,h⟩:=g2 h
   refine GN a0 [(2,2,oc c27),(3,3,oc c28)] (cQ h (fun out6=>aL [(0,.i64 n1),(1,.u8 bits1),(5,.st out6),(6,.i64 i2)] [] 0) (fun out6 h=> ?_) (fun out6 h=> ?_))
   ·refine aS h (fun hb9 h=> ?_) (fun hb9 h=> ?_)
    ·obtain⟨c35,h⟩:=bA h
     obtain⟨r12,q12,h⟩:=aC h
     obtain⟨c36,h⟩:=bA h
     have u_1:=(oU q12)
     refine dX ⟨[],[(4,(oP u_1))]⟩ [(1,1,oc c35),(4,4,oc u_1),(5,5,oc c36)] ?_
     exact eN h (gg [] [])
    refine aB ?_
    exact eN h (gg [] [])
   refine aI (aA (Ge ?_))
   exact eB h (gg [] [])
  refine aM (bM ?_)
  exact eX h (gg [] [])
 refine aO (aA (G (aQ ?_)))
 obtain rfl:=sI h
 exact aK [.str] (by kernel_rfl)
def dG(r1:List Int)(r2:Int):Option (Int×Int) :=
 (if(decide (r2≥(r1.length:Int)))=true then some ((0:Int),r2)
 else(if 0≤(IntKind.i64.wrap ((IntKind.i64.wrap (r2+(1:Int))) - (1:Int)))∧(IntKind.i64.wrap ((IntKind.i64.wrap (r2+(1:Int))) - (1:Int)))<(r1.length:Int)then some ((IntKind.i64.wrap (r1.getD ((IntKind.i64.wrap ((IntKind.i64.wrap (r2+(1:Int))) - (1:Int))).toNat) (0:Int))),(IntKind.i64.wrap (r2+(1:Int))))else none))
theorem jC{r1:List Int}{r2:Int}{res:Int×Int}(h:dG r1 r2=some res):
  Owns Tryd.prog 67 [.adr 0 0 2 0] [(0,.box [.p false (.slice (.int .u8)) r1,.i64 r2])] (.i64 res.1) [(0,.box [.p false (.slice (.int .u8)) r1,.i64 res.2])]:=by
 refine Owns.of_body bH Tryd.func67 (by kernel_rfl) rfl (nl rfl) (fun Bw w0=> ?_)
 unfold dG at h
 refine G (aD (GD a0 [] (aS h (fun hb2 h=> ?_) (fun hb2 h=> ?_))))
 ·refine G (aQ (aG ?_))
  obtain rfl:=sI h
  exact aE [some (.int .i64)] [] [0] [(2,.i64 (0:Int))] [(0,.box [.p false (.slice (.int .u8)) r1,.i64 r2])] 1 1 (by kernel_rfl) (by kernel_rfl) (by kernel_rfl)
 refine aB (aA (G ?_))
 obtain⟨c4,h⟩:=bA h
 refine GD a0 [(9,9,oc c4)] (aQ ?_)
 obtain rfl:=sI h
 exact aE [some (.int .i64)] [] [0] [(2,.i64 (IntKind.i64.wrap (r1.getD ((IntKind.i64.wrap ((IntKind.i64.wrap (r2+(1:Int))) - (1:Int))).toNat) (0:Int))))] [(0,.box [.p false (.slice (.int .u8)) r1,.i64 (IntKind.i64.wrap (r2+(1:Int)))])] 1 1 (by kernel_rfl) (by kernel_rfl) (by kernel_rfl)
def kU(rec_hq_expr_v1:Int→Int→(List Int)→Int→Option ((List UInt8)×Int))(d1 x1:Int)(i1:List Int)(i2:Int):Option ((List UInt8)×Int) :=
 ((dG i1 i2).bind fun(r73,r74) =>
 (if(decide (x1≤(0:Int)))=true then((mC d1 r73).bind fun r76 =>
 some (r76,r74))
 else(if ¬(12:Int)=0 then(if((Int.tmod r73 (12:Int)) == (4:Int))=true then some (([46]:List UInt8),r74)
 else(if((Int.tmod r73 (12:Int)) == (5:Int))=true then((dG i1 r74).bind fun(r79,r80) =>
 ((iA d1 (IntKind.u8.wrap r79)).bind fun r82 =>
 (if([91]:List UInt8).length+r82.length≤9223372036854775807 then(if(([91]:List UInt8)++r82).length+([93]:List UInt8).length≤9223372036854775807 then some (((([91]:List UInt8)++r82)++([93]:List UInt8)),r80)else none)else none)))
 else(if((Int.tmod r73 (12:Int)) == (6:Int))=true then((dG i1 r74).bind fun(r85,r86) =>
 ((iA d1 (IntKind.u8.wrap r85)).bind fun r88 =>
 (if([91,94]:List UInt8).length+r88.length≤9223372036854775807 then(if(([91,94]:List UInt8)++r88).length+([93]:List UInt8).length≤9223372036854775807 then some (((([91,94]:List UInt8)++r88)++([93]:List UInt8)),r86)else none)else none)))
 else(if((Int.tmod r73 (12:Int)) == (7:Int))=true then((rec_hq_expr_v1 d1 (IntKind.i64.wrap (x1 - (1:Int))) i1 r74).bind fun(r91,r92) =>
 (if([40]:List UInt8).length+r91.length≤9223372036854775807 then(if(([40]:List UInt8)++r91).length+([41,42]:List UInt8).length≤9223372036854775807 then some (((([40]:List UInt8)++r91)++([41,42]:List UInt8)),r92)else none)else none))
 else(if((Int.tmod r73 (12:Int)) == (8:Int))=true then((rec_hq_expr_v1 d1 (IntKind.i64.wrap (x1 - (1:Int))) i1 r74).bind fun(r95,r96) =>
 (if([40]:List UInt8).length+r95.length≤9223372036854775807 then(if(([40]:List UInt8)++r95).length+([41,43]:List UInt8).length≤9223372036854775807 then some (((([40]:List UInt8)++r95)++([41,43]:List UInt8)),r96)else none)else none))
 else(if((Int.tmod r73 (12:Int)) == (9:Int))=true then((rec_hq_expr_v1 d1 (IntKind.i64.wrap (x1 - (1:Int))) i1 r74).bind fun(r99,r100) =>
 (if([40]:List UInt8).length+r99.length≤9223372036854775807 then(if(([40]:List UInt8)++r99).length+([41,63]:List UInt8).length≤9223372036854775807 then some (((([40]:List UInt8)++r99)++([41,63]:List UInt8)),r100)else none)else none))
 else(if((Int.tmod r73 (12:Int)) == (10:Int))=true then((rec_hq_expr_v1 d1 (IntKind.i64.wrap (x1 - (1:Int))) i1 r74).bind fun(r103,r104) =>
 ((rec_hq_expr_v1 d1 (IntKind.i64.wrap (x1 - (1:Int))) i1 r104).bind fun(r107,r108) =>
 (if([40]:List UInt8).length+r103.length≤9223372036854775807 then(if(([40]:List UInt8)++r103).length+([124]:List UInt8).length≤9223372036854775807 then(if((([40]:List UInt8)++r103)++([124]:List UInt8)).length+r107.length≤9223372036854775807 then(if(((([40]:List UInt8)++r103)++([124]:List UInt8))++r107).length+([41]:List UInt8).length≤9223372036854775807 then some (((((([40]:List UInt8)++r103)++([124]:List UInt8))++r107)++([41]:List UInt8)),r108)else none)else none)else none)else none)))
 else(if((Int.tmod r73 (12:Int)) == (11:Int))=true then((rec_hq_expr_v1 d1 (IntKind.i64.wrap (x1 - (1:Int))) i1 r74).bind fun(r111,r112) =>
 ((rec_hq_expr_v1 d1 (IntKind.i64.wrap (x1 - (1:Int))) i1 r112).bind fun(r115,r116) =>
 (if r111.length+([32]:List UInt8).length≤9223372036854775807 then(if(r111++([32]:List UInt8)).length+r115.length≤9223372036854775807 then some (((r111++([32]:List UInt8))++r115),r116)else none)else none)))
 else((mC d1 r73).bind fun r118 =>
 some (r118,r74))))))))))else none)))
def j9:Nat→Int→Int→(List Int)→Int→Option ((List UInt8)×Int)
 | 0=>fun _ _ _ _=>none
 | n+1=>kU (j9 n)
theorem C2(rec_hq_expr_v1:Int→Int→(List Int)→Int→Option ((List UInt8)×Int))(hrec_hq_expr_v1:∀ {d1:Int} {x1:Int} {i1:List Int} {i2:Int} {res:(List UInt8)×Int},rec_hq_expr_v1 d1 x1 i1 i2=some res→Owns Tryd.prog 36 [.i64 d1,.adr 0 0 2 0,.i64 x1] [(0,.box [.p false (.slice (.int .u8)) i1,.i64 i2])] (.st res.1) [(0,.box [.p false (.slice (.int .u8)) i1,.i64 res.2])]){d1:Int}{x1:Int}{i1:List Int}{i2:Int}{res:(List UInt8)×Int}(h:kU rec_hq_expr_v1 d1 x1 i1 i2=some res):
  Owns Tryd.prog 36 [.i64 d1,.adr 0 0 2 0,.i64 x1] [(0,.box [.p false (.slice (.int .u8)) i1,.i64 i2])] (.st res.1) [(0,.box [.p false (.slice (.int .u8)) i1,.i64 res.2])]:=by
 refine Owns.of_body bH Tryd.func36 (by kernel_rfl) rfl (nl rfl) (fun Bw w0=> ?_)
 unfold kU at h
 refine G ?_
 obtain⟨⟨r73,r74⟩,q44,h⟩:=aC h
 refine GO 1 [0] (jC q44) (aD (G (aS h (fun hb19 h=> ?_) (fun hb19 h=> ?_))))
 ·obtain⟨r76,q46,h⟩:=aC h
  refine GP 2 (oU q46) (aQ (aG ?_))
  obtain rfl:=sI h
  exact aE [some .str] [] [0] [(6,.st r76)] [(0,.box [.p false (.slice (.int .u8)) i1,.i64 r74])] 1 1 (by kernel_rfl) (by kernel_rfl) (by kernel_rfl)
 refine aB (aA (aD (GC 1 h (fun h=>aF (G (aS h (fun hb20 h=> ?_) (fun hb20 h=> ?_)))))))
 ·refine G (aQ (aR (aG ?_)))
  obtain rfl:=sI h
  exact aE [some .str] [] [0] [(6,.st ([46]:List UInt8))] [(0,.box [.p false (.slice (.int .u8)) i1,.i64 r74])] 1 1 (by kernel_rfl) (by kernel_rfl) (by kernel_rfl)
 refine G (aS h (fun hb21 h=> ?_) (fun hb21 h=> ?_))
 ·obtain⟨⟨r79,r80⟩,q48,h⟩:=aC h
  refine GO 1 [0] (jC q48) ?_
  obtain⟨r82,q50,h⟩:=aC h
  obtain⟨c49,c50,h⟩:=g2 h
  have u_1:=(mQ q50)
  refine GN ⟨[],[(3,(oP u_1))]⟩ [(3,3,oc u_1),(4,4,oc c49),(5,5,oc c50)] (aQ (aR (aG ?_)))
  obtain rfl:=sI h
  exact aE [some .str] [] [0] [(6,.st ((([91]:List UInt8)++r82)++([93]:List UInt8)))] [(0,.box [.p false (.slice (.int .u8)) i1,.i64 r80])] 1 1 (by kernel_rfl) (by kernel_rfl) (by kernel_rfl)
 refine G (aS h (fun hb22 h=> ?_) (fun hb22 h=> ?_))
 ·obtain⟨⟨r85,r86⟩,q52,h⟩:=aC h
  refine GO 1 [0] (jC q52) ?_
  obtain⟨r88,q54,h⟩:=aC h
  obtain⟨c53,c54,h⟩:=g2 h
  have u_1:=(mQ q54)
  refine GN ⟨[],[(3,(oP u_1))]⟩ [(3,3,oc u_1),(4,4,oc c53),(5,5,oc c54)] (aQ (aR (aG ?_)))
  obtain rfl:=sI h
  exact aE [some .str] [] [0] [(6,.st ((([91,94]:List UInt8)++r88)++([93]:List UInt8)))] [(0,.box [.p false (.slice (.int .u8)) i1,.i64 r86])] 1 1 (by kernel_rfl) (by kernel_rfl) (by kernel_rfl)
 refine G (aS h (fun hb23 h=> ?_) (fun hb23 h=> ?_))
 ·obtain⟨⟨r91,r92⟩,q56,h⟩:=aC h
  refine GO 4 [0] (hrec_hq_expr_v1 q56) ?_
  obtain⟨c57,c58,h⟩:=g2 h
  refine GN a0 [(1,1,oc c57),(2,2,oc c58)] (aQ (aR (aG ?_)))
  obtain rfl:=sI h
  exact aE [some .str] [] [0] [(6,.st ((([40]:List UInt8)++r91)++([41,42]:List UInt8)))] [(0,.box [.p false (.slice (.int .u8)) i1,.i64 r92])] 1 1 (by kernel_rfl) (by kernel_rfl) (by kernel_rfl)
 refine G (aS h (fun hb24 h=> ?_) (fun hb24 h=> ?_))
 ·obtain⟨⟨r95,r96⟩,q58,h⟩:=aC h
  refine GO 4 [0] (hrec_hq_expr_v1 q58) ?_
  obtain⟨c61,c62,h⟩:=g2 h
  refine GN a0 [(1,1,oc c61),(2,2,oc c62)] (aQ (aR (aG ?_)))
  obtain rfl:=sI h
  exact aE [some .str] [] [0] [(6,.st ((([40]:List UInt8)++r95)++([41,43]:List UInt8)))] [(0,.box [.p false (.slice (.int .u8)) i1,.i64 r96])] 1 1 (by kernel_rfl) (by kernel_rfl) (by kernel_rfl)
 refine G (aS h (fun hb25 h=> ?_) (fun hb25 h=> ?_))
 ·obtain⟨⟨r99,r100⟩,q60,h⟩:=aC h
  refine GO 4 [0] (hrec_hq_expr_v1 q60) ?_
  obtain⟨c65,c66,h⟩:=g2 h
  refine GN a0 [(1,1,oc c65),(2,2,oc c66)] (aQ (aR (aG ?_)))
  obtain rfl:=sI h
  exact aE [some .str] [] [0] [(6,.st ((([40]:List UInt8)++r99)++([41,63]:List UInt8)))] [(0,.box [.p false (.slice (.int .u8)) i1,.i64 r100])] 1 1 (by kernel_rfl) (by kernel_rfl) (by kernel_rfl)
 refine G (aS h (fun hb26 h=> ?_) (fun hb26 h=> ?_))
 ·obtain⟨⟨r103,r104⟩,q62,h⟩:=aC h
  refine GO 4 [0] (hrec_hq_expr_v1 q62) ?_
  obtain⟨⟨r107,r108⟩,q64,h⟩:=aC h
  refine GO 4 [0] (hrec_hq_expr_v1 q64) ?_
  obtain⟨c71,c72,c73,c74,h⟩:=g4 h
  refine GN a0 [(1,1,oc c71),(2,2,oc c72),(4,4,oc c73),(5,5,oc c74)] (aQ (aR (aG ?_)))
  obtain rfl:=sI h
  exact aE [some .str] [] [0] [(6,.st ((((([40]:List UInt8)++r103)++([124]:List UInt8))++r107)++([41]:List UInt8)))] [(0,.box [.p false (.slice (.int .u8)) i1,.i64 r108])] 1 1 (by kernel_rfl) (by kernel_rfl) (by kernel_rfl)
 refine G (aS h (fun hb27 h=> ?_) (fun hb27 h=> ?_))
 ·obtain⟨⟨r111,r112⟩,q66,h⟩:=aC h
  refine GO 4 [0] (hrec_hq_expr_v1 q66) ?_
  obtain⟨⟨r115,r116⟩,q68,h⟩:=aC h
  refine GO 4 [0] (hrec_hq_expr_v1 q68) ?_
  obtain⟨c77,c78,h⟩:=g2 h
  refine GN a0 [(1,1,oc c77),(3,3,oc c78)] (aQ (aR (aG ?_)))
  obtain rfl:=sI h
  exact aE [some .str] [] [0] [(6,.st ((r111++([32]:List UInt8))++r115))] [(0,.box [.p false (.slice (.int .u8)) i1,.i64 r116])] 1 1 (by kernel_rfl) (by kernel_rfl) (by kernel_rfl)
 refine aB (aI (aA ?_))
 obtain⟨r118,q70,h⟩:=aC h
 refine GP 2 (oU q70) (aQ ?_)
 obtain rfl:=sI h
 exact aE [some .str] [] [0] [(6,.st r118)] [(0,.box [.p false (.slice (.int .u8)) i1,.i64 r74])] 1 1 (by kernel_rfl) (by kernel_rfl) (by kernel_rfl)
theorem uU:∀(n:Nat) {d1:Int} {x1:Int} {i1:List Int} {i2:Int} {res:(List UInt8)×Int},j9 n d1 x1 i1 i2=some res→Owns Tryd.prog 36 [.i64 d1,.adr 0 0 2 0,.i64 x1] [(0,.box [.p false (.slice (.int .u8)) i1,.i64 i2])] (.st res.1) [(0,.box [.p false (.slice (.int .u8)) i1,.i64 res.2])]
 | 0,_,_,_,_,_,h=>by cases h
 | n+1,d1,x1,i1,i2,res,h=>C2 (j9 n) (uU n)  h
def oZ(n1:Int)(l1:List Int):Option (List UInt8) :=
 (if((l1.length:Int) == (0:Int))=true then some ([]:List UInt8)
 else(if 0≤(0:Int)∧(0:Int)≤(min (l1.length:Int) (30:Int))∧(min (l1.length:Int) (30:Int))≤(l1.length:Int)then((j9 1000 n1 (3:Int) ((l1.take (min (l1.length:Int) (30:Int)).toNat).drop (0:Int).toNat) (0:Int)).bind fun(r3,r4) =>
 some r3)else none))
theorem O7{n1:Int}{l1:List Int}{res:List UInt8}(h:oZ n1 l1=some res):
  Pure Tryd.prog 26 [.i64 n1,.p false (.slice (.int .u8)) l1] (b8 (fR false [⟨.str,res⟩])):=by
 refine Pure.of_body bH Tryd.func26 (by kernel_rfl) rfl (nl rfl) (fun Bw w0=> ?_) rfl
 unfold oZ at h
 refine G (aD (G (aS h (fun hb1 h=> ?_) (fun hb1 h=> ?_))))
 ·refine G (aQ (aG ?_))
  obtain rfl:=sI h
  exact aK [.str] (by kernel_rfl)
 refine aB (aA ?_)
 obtain⟨c2,h⟩:=bA h
 obtain⟨⟨r3,r4⟩,q2,h⟩:=aC h
 have u_1:=(uU 1000 q2)
 refine GN ⟨[],[(8,(oO u_1 [88]))]⟩ [(5,5,oc c2),(8,8,oc u_1)] (aQ ?_)
 obtain rfl:=sI h
 exact aK [.str] (by kernel_rfl)
def lT(d4:List Int)(r2:Int):((List UInt8)×Int)→Option (((List UInt8)×Int)⊕(List UInt8)):=fun(v6,v7) =>
 (((if(decide (v7<(d4.length:Int)))=true then some ((decide (v7<r2)))
 else some (false))).bind fun v9=>(if v9=true then(if v6.length+([116,114,101,97,116,32]:List UInt8).length≤9223372036854775807 then((mC r2 v7).bind fun r23 =>
 (if(v6++([116,114,101,97,116,32]:List UInt8)).length+r23.length≤9223372036854775807 then(if((v6++([116,114,101,97,116,32]:List UInt8))++r23).length+([32,61,32]:List UInt8).length≤9223372036854775807 then(if 0≤v7∧v7<(d4.length:Int)then((mC r2 (IntKind.i64.wrap (d4.getD v7.toNat (0:Int)))).bind fun r24 =>
 (if(((v6++([116,114,101,97,116,32]:List UInt8))++r23)++([32,61,32]:List UInt8)).length+r24.length≤9223372036854775807 then(if((((v6++([116,114,101,97,116,32]:List UInt8))++r23)++([32,61,32]:List UInt8))++r24).length+([59,10]:List UInt8).length≤9223372036854775807 then some (Sum.inl ((((((v6++([116,114,101,97,116,32]:List UInt8))++r23)++([32,61,32]:List UInt8))++r24)++([59,10]:List UInt8)),(IntKind.i64.wrap (v7+(1:Int)))))else none)else none))else none)else none)else none))else none)
 else some (Sum.inr v6)))
def lX(d5:List (Int×(List Int)×List Int))(r2:Int):((List UInt8)×Int)→Option (((List UInt8)×Int)⊕(List UInt8)):=fun(v14,v15) =>
 (((if(decide (v15<(d5.length:Int)))=true then some ((decide (v15<(10:Int))))
 else some (false))).bind fun v17=>(if v17=true then(if 0≤v15∧v15<(d5.length:Int)then(if ¬(3:Int)=0 then(if 0≤(Int.tmod ((d5.getD v15.toNat ((0:Int),(([]:List Int),([]:List Int)))).1) (3:Int))∧(Int.tmod ((d5.getD v15.toNat ((0:Int),(([]:List Int),([]:List Int)))).1) (3:Int))<(([([107,101,101,112,32]:List UInt8),([109,97,121,32]:List UInt8),([109,117,115,116,32]:List UInt8)]:List (List UInt8)).length:Int)then(if(Int.tmod ((d5.getD v15.toNat ((0:Int),(([]:List Int),([]:List Int)))).1) (3:Int)).toNat<([([107,101,101,112,32]:List UInt8),([109,97,121,32]:List UInt8),([109,117,115,116,32]:List UInt8)]:List (List UInt8)).length then(if v14.length+(([([107,101,101,112,32]:List UInt8),([109,97,121,32]:List UInt8),([109,117,115,116,32]:List UInt8)]:List (List UInt8)).getD ((Int.tmod ((d5.getD v15.toNat ((0:Int),(([]:List Int),([]:List Int)))).1) (3:Int)).toNat) ([]:List UInt8)).length≤9223372036854775807 then(if 0≤v15∧v15<(d5.length:Int)then((oZ r2 ((d5.getD v15.toNat ((0:Int),(([]:List Int),([]:List Int)))).2.1)).bind fun r35 =>
 (if(v14++(([([107,101,101,112,32]:List UInt8),([109,97,121,32]:List UInt8),([109,117,115,116,32]:List UInt8)]:List (List UInt8)).getD ((Int.tmod ((d5.getD v15.toNat ((0:Int),(([]:List Int),([]:List Int)))).1) (3:Int)).toNat) ([]:List UInt8))).length+r35.length≤9223372036854775807 then(if((v14++(([([107,101,101,112,32]:List UInt8),([109,97,121,32]:List UInt8),([109,117,115,116,32]:List UInt8)]:List (List UInt8)).getD ((Int.tmod ((d5.getD v15.toNat ((0:Int),(([]:List Int),([]:List Int)))).1) (3:Int)).toNat) ([]:List UInt8)))++r35).length+([32,47,32]:List UInt8).length≤9223372036854775807 then(if 0≤v15∧v15<(d5.length:Int)then((oZ r2 ((d5.getD v15.toNat ((0:Int),(([]:List Int),([]:List Int)))).2.2)).bind fun r36 =>
 (if(((v14++(([([107,101,101,112,32]:List UInt8),([109,97,121,32]:List UInt8),([109,117,115,116,32]:List UInt8)]:List (List UInt8)).getD ((Int.tmod ((d5.getD v15.toNat ((0:Int),(([]:List Int),([]:List Int)))).1) (3:Int)).toNat) ([]:List UInt8)))++r35)++([32,47,32]:List UInt8)).length+r36.length≤9223372036854775807 then(if((((v14++(([([107,101,101,112,32]:List UInt8),([109,97,121,32]:List UInt8),([109,117,115,116,32]:List UInt8)]:List (List UInt8)).getD ((Int.tmod ((d5.getD v15.toNat ((0:Int),(([]:List Int),([]:List Int)))).1) (3:Int)).toNat) ([]:List UInt8)))++r35)++([32,47,32]:List UInt8))++r36).length+([59,10]:List UInt8).length≤9223372036854775807 then some (Sum.inl ((((((v14++(([([107,101,101,112,32]:List UInt8),([109,97,121,32]:List UInt8),([109,117,115,116,32]:List UInt8)]:List (List UInt8)).getD ((Int.tmod ((d5.getD v15.toNat ((0:Int),(([]:List Int),([]:List Int)))).1) (3:Int)).toNat) ([]:List UInt8)))++r35)++([32,47,32]:List UInt8))++r36)++([59,10]:List UInt8)),(IntKind.i64.wrap (v15+(1:Int)))))else none)else none))else none)else none)else none))else none)else none)else none)else none)else none)else none)
 else some (Sum.inr v14)))
def uE(d1 d2 d3:Int)(d4:List Int)(d5:List (Int×(List Int)×List Int)):Option (List UInt8) :=
 ((jW d1 d2 d3 d4 d5).bind fun r2 =>
 ((iA r2 (255:Int)).bind fun r4 =>
 (if([99,108,97,115,115]:List UInt8).length+r4.length≤9223372036854775807 then(if(([99,108,97,115,115]:List UInt8)++r4).length+([59,10]:List UInt8).length≤9223372036854775807 then(((if(d2 != (0:Int))=true then(if((([99,108,97,115,115]:List UInt8)++r4)++([59,10]:List UInt8)).length+([106,111,105,110]:List UInt8).length≤9223372036854775807 then((iA r2 d2).bind fun r11 =>
 (if(((([99,108,97,115,115]:List UInt8)++r4)++([59,10]:List UInt8))++([106,111,105,110]:List UInt8)).length+r11.length≤9223372036854775807 then(if((((([99,108,97,115,115]:List UInt8)++r4)++([59,10]:List UInt8))++([106,111,105,110]:List UInt8))++r11).length+([32,47]:List UInt8).length≤9223372036854775807 then((iA r2 d3).bind fun r12 =>
 (if(((((([99,108,97,115,115]:List UInt8)++r4)++([59,10]:List UInt8))++([106,111,105,110]:List UInt8))++r11)++([32,47]:List UInt8)).length+r12.length≤9223372036854775807 then(if((((((([99,108,97,115,115]:List UInt8)++r4)++([59,10]:List UInt8))++([106,111,105,110]:List UInt8))++r11)++([32,47]:List UInt8))++r12).length+([59,10]:List UInt8).length≤9223372036854775807 then some ((((((((([99,108,97,115,115]:List UInt8)++r4)++([59,10]:List UInt8))++([106,111,105,110]:List UInt8))++r11)++([32,47]:List UInt8))++r12)++([59,10]:List UInt8)))else none)else none))else none)else none))else none)
 else some (((([99,108,97,115,115]:List UInt8)++r4)++([59,10]:List UInt8))))).bind fun v1=>((iter (lT d4 r2) (v1,(0:Int))).bind fun v8=>((iter (lX d5 r2) (v8,(0:Int))).bind fun v16=>some v16)))else none)else none)))
theorem J3(β3:Bool){d1:Int}{d2:Int}{d3:Int}{d4:List Int}{d5:List (Int×(List Int)×List Int)}{res:List UInt8}(h:uE d1 d2 d3 d4 d5=some res):
  Pure Tryd.prog 15 [.agg [.u8 d1,.u8 d2,.u8 d3,.p β3 (.slice (.int .u8)) d4,.p false (.slice (.prod (.int .u8) Y11)) d5]] (b8 (fR false [⟨.str,res⟩])):=by
 refine Pure.of_body bH Tryd.func15 (by kernel_rfl) rfl (nl rfl) (fun Bw w0=> ?_) rfl
 unfold uE at h
 refine G ?_
 obtain⟨r2,q2,h⟩:=aC h
 refine GP 1 (yY β3 false q2) ?_
 obtain⟨r4,q4,h⟩:=aC h
 obtain⟨c3,c4,h⟩:=g2 h
 have u_1:=(mQ q4)
 refine GN ⟨[],[(1,(oP u_1))]⟩ [(1,1,oc u_1),(2,2,oc c3),(3,3,oc c4)] (aD (G (cQ h (fun v1=>aL [(1,.adr 0 0 5 0),(3,.i64 r2),(4,.st v1)] (aHr d1 d2 d3 β3 d4 d5) 1) (fun v1 h=> ?_) (fun v1 h=> ?_))))
 ·refine aS h (fun hb2 h=> ?_) (fun hb2 h=> ?_)
  ·obtain⟨c20,h⟩:=bA h
   obtain⟨r11,q11,h⟩:=aC h
   obtain⟨c21,c22,h⟩:=g2 h
   obtain⟨r12,q12,h⟩:=aC h
   obtain⟨c23,c24,h⟩:=g2 h
   have u_1:=(mQ q11)
   have u_2:=(mQ q12)
   refine vA ⟨[],[(5,(oP u_1)),(11,(oP u_2))]⟩ [(1,1,oc c20),(5,5,oc u_1),(6,6,oc c21),(7,7,oc c22),(11,11,oc u_2),(12,12,oc c23),(13,13,oc c24)] ?_
   exact eN h (gg [] [0])
  refine aB ?_
  exact eN h (gg [] [0])
 refine aA (aD (G (aF (iK h (fun(v6,v7)=>aL [(1,.adr 0 0 5 0),(3,.i64 r2),(4,.st v6),(5,.i64 v7)] (aHr d1 d2 d3 β3 d4 d5) 1) 0 (fun v8=>aL [(1,.adr 0 0 5 0),(3,.i64 r2),(4,.st v8)] (aHr d1 d2 d3 β3 d4 d5) 1) (gg [] [0]) (fun y o h=> ?_) (fun v8 h=> ?_)))))
 ·obtain⟨v6,v7⟩:=y
  unfold lT at h
  refine aD (aD (cQ h (fun v9=>aL [(1,.adr 0 0 5 0),(3,.i64 r2),(4,.st v6),(5,.i64 v7),(40,.bo v9)] (aHr d1 d2 d3 β3 d4 d5) 1) (fun v9 h=> ?_) (fun v9 h=> ?_)))
  ·rcases bC h with⟨hb13,h⟩ | ⟨hb13,h⟩
   ·refine dX ⟨[(5,true),(9,true)],[]⟩ [(6,8,an hb13),(9,9,oc hb13)] ?_
    exact eN h (gg [] [0])
   refine dX ⟨[(5,false),(9,false)],[]⟩ [(6,9,oc hb13)] ?_
   exact eN h (gg [] [0])
  refine aA (aS h (fun hb14 h=> ?_) (fun hb14 h=> ?_))
  ·refine aB (aA (aD (aF ?_)))
   obtain⟨c55,h⟩:=bA h
   obtain⟨r23,q23,h⟩:=aC h
   obtain⟨c56,c57,c58,h⟩:=g3 h
   obtain⟨r24,q24,h⟩:=aC h
   obtain⟨c59,c60,h⟩:=g2 h
   have u_1:=(oU q23)
   have u_2:=(oU q24)
   refine vA ⟨[],[(4,(oP u_1)),(14,(oP u_2))]⟩ [(1,1,oc c55),(4,4,oc u_1),(5,5,oc c56),(6,6,oc c57),(11,11,oc c58),(14,14,oc u_2),(15,15,oc c59),(16,16,oc c60)] (aI (aA (Ge ?_)))
   exact eB h (gg [] [0])
  refine aM (bM ?_)
  exact eX h (gg [] [0])
 refine aO (aA (G (aD (G (aF (iK h (fun(v14,v15)=>aL [(1,.adr 0 0 5 0),(3,.i64 r2),(4,.st v14),(6,.sl 1),(7,.i64 v15)] (aI6 d1 d2 d3 β3 d4 d5 ([([107,101,101,112,32]:List UInt8),([109,97,121,32]:List UInt8),([109,117,115,116,32]:List UInt8)]:List (List UInt8))) 2) 2 (fun v16=>aL [(4,.st v16)] [] 0) (gg [] [0,1]) (fun y o h=> ?_) (fun v16 h=> ?_)))))))
 ·obtain⟨v14,v15⟩:=y
  unfold lX at h
  refine aD (aD (cQ h (fun v17=>aL [(1,.adr 0 0 5 0),(3,.i64 r2),(4,.st v14),(6,.sl 1),(7,.i64 v15),(69,.bo v17)] (aI6 d1 d2 d3 β3 d4 d5 ([([107,101,101,112,32]:List UInt8),([109,97,121,32]:List UInt8),([109,117,115,116,32]:List UInt8)]:List (List UInt8))) 2) (fun v17 h=> ?_) (fun v17 h=> ?_)))
  ·rcases bC h with⟨hb25,h⟩ | ⟨hb25,h⟩
   ·refine dX ⟨[(5,true),(8,true)],[]⟩ [(6,7,an hb25),(8,8,oc hb25)] ?_
    exact eN h (gg [] [0,1])
   refine dX ⟨[(5,false),(8,false)],[]⟩ [(6,8,oc hb25)] ?_
   exact eN h (gg [] [0,1])
  refine aA (aS h (fun hb26 h=> ?_) (fun hb26 h=> ?_))
  ·refine aB (aA (aD (aF ?_)))
   obtain⟨c116,c117,c118,c119,h⟩:=g4 h
   obtain⟨c120,c121,h⟩:=g2 h
   obtain⟨r35,q35,h⟩:=aC h
   obtain⟨c122,c123,c124,h⟩:=g3 h
   obtain⟨r36,q36,h⟩:=aC h
   obtain⟨c125,c126,h⟩:=g2 h
   have u_1:=(O7 q35)
   have u_2:=(O7 q36)
   refine vA ⟨[],[(19,(oP u_1)),(29,(oP u_2))]⟩ [(5,5,oc c116),(8,8,oc c117),(9,9,oc c118),(10,10,oc c119),(11,11,oc c120),(16,16,oc c121),(19,19,oc u_1),(20,20,oc c122),(21,21,oc c123),(26,26,oc c124),(29,29,oc u_2),(30,30,oc c125),(31,31,oc c126)] (aI (aA (Ge ?_)))
   exact eB h (gg [] [0,1])
  refine aM (bM ?_)
  exact eX h (gg [] [])
 refine aO (aA (G (aQ ?_)))
 obtain rfl:=sI h
 exact aK [.str] (by kernel_rfl)
def iD(c1:Int):Option (Bool) :=
 (((if(c1 == (95:Int))=true then some (true)
 else(if(decide (c1≥(48:Int)))=true then(if(decide (c1≤(57:Int)))=true then some (true)
 else(if(decide (c1≥(65:Int)))=true then(if(decide (c1≤(90:Int)))=true then some (true)
 else(if(decide (c1≥(97:Int)))=true then some ((decide (c1≤(122:Int))))
 else some (false)))
 else(if(decide (c1≥(97:Int)))=true then some ((decide (c1≤(122:Int))))
 else some (false))))
 else(if(decide (c1≥(65:Int)))=true then(if(decide (c1≤(90:Int)))=true then some (true)
 else(if(decide (c1≥(97:Int)))=true then some ((decide (c1≤(122:Int))))
 else some (false)))
 else(if(decide (c1≥(97:Int)))=true then some ((decide (c1≤(122:Int))))
 else some (false)))))).bind fun v1=>some v1)
theorem hJ{c1:Int}{res:Bool}(h:iD c1=some res):
  Pure Tryd.prog 37 [.u8 c1] (b8 (fR false [⟨.bool,res⟩])):=by
 refine Pure.of_body bH Tryd.func37 (by kernel_rfl) rfl (nl rfl) (fun Bw w0=> ?_) rfl
 unfold iD at h
 refine G (aD (cQ h (fun v1=>aL [(2,.bo v1)] [] 0) (fun v1 h=> ?_) (fun v1 h=> ?_)))
 ·rcases bC h with⟨hb23,h⟩ | ⟨hb23,h⟩
  ·refine dX ⟨[(2,true),(9,true)],[]⟩ [(3,5,oc hb23),(8,9,oc hb23)] ?_
   exact eN h (gg [] [])
  rcases bC h with⟨hb24,h⟩ | ⟨hb24,h⟩
  ·rcases bC h with⟨hb25,h⟩ | ⟨hb25,h⟩
   ·refine dX ⟨[(2,false),(5,true),(8,true),(9,false),(10,true),(17,true)],[]⟩ [(3,5,an hb23),(6,7,an hb24),(8,8,oc (And.intro hb23 hb24)),(9,9,oc hb23),(11,13,oc hb25),(16,17,oc hb25)] ?_
    exact eN h (gg [] [])
   rcases bC h with⟨hb26,h⟩ | ⟨hb26,h⟩
   ·rcases bC h with⟨hb27,h⟩ | ⟨hb27,h⟩
    ·refine dX ⟨[(2,false),(5,true),(8,true),(9,false),(10,false),(13,true),(16,true),(17,false),(18,true),(25,true)],[]⟩ [(3,5,an hb23),(6,7,an hb24),(8,8,oc (And.intro hb23 hb24)),(9,9,oc hb23),(11,13,an hb25),(14,15,an hb26),(16,16,oc (And.intro hb25 hb26)),(17,17,oc hb25),(19,21,oc hb27),(24,25,oc hb27)] ?_
     exact eN h (gg [] [])
    rcases bC h with⟨hb28,h⟩ | ⟨hb28,h⟩
    ·refine dX ⟨[(2,false),(5,true),(8,true),(9,false),(10,false),(13,true),(16,true),(17,false),(18,false),(21,true),(24,true),(25,false)],[]⟩ [(3,5,an hb23),(6,7,an hb24),(8,8,oc (And.intro hb23 hb24)),(9,9,oc hb23),(11,13,an hb25),(14,15,an hb26),(16,16,oc (And.intro hb25 hb26)),(17,17,oc hb25),(19,21,an hb27),(22,23,an hb28),(24,24,oc (And.intro hb27 hb28)),(25,25,oc hb27)] ?_
     exact eN h (gg [] [])
    refine dX ⟨[(2,false),(5,true),(8,true),(9,false),(10,false),(13,true),(16,true),(17,false),(18,false),(21,false),(24,false),(25,false)],[]⟩ [(3,5,an hb23),(6,7,an hb24),(8,8,oc (And.intro hb23 hb24)),(9,9,oc hb23),(11,13,an hb25),(14,15,an hb26),(16,16,oc (And.intro hb25 hb26)),(17,17,oc hb25),(19,21,an hb27),(22,23,oc hb28),(24,24,oc (And.intro hb27 hb28)),(25,25,oc hb27)] ?_
    exact eN h (gg [] [])
   rcases bC h with⟨hb29,h⟩ | ⟨hb29,h⟩
   ·refine dX ⟨[(2,false),(5,true),(8,true),(9,false),(10,false),(13,false),(16,false),(17,false),(21,true),(24,true)],[]⟩ [(3,5,an hb23),(6,7,an hb24),(8,8,oc (And.intro hb23 hb24)),(9,9,oc hb23),(11,13,an hb25),(14,15,oc hb26),(16,16,oc (And.intro hb25 hb26)),(17,17,oc hb25),(22,23,an hb29),(24,24,oc hb29)] ?_
    exact eN h (gg [] [])
   refine dX ⟨[(2,false),(5,true),(8,true),(9,false),(10,false),(13,false),(16,false),(17,false),(21,false),(24,false)],[]⟩ [(3,5,an hb23),(6,7,an hb24),(8,8,oc (And.intro hb23 hb24)),(9,9,oc hb23),(11,13,an hb25),(14,15,oc hb26),(16,16,oc (And.intro hb25 hb26)),(17,17,oc hb25),(22,24,oc hb29)] ?_
   exact eN h (gg [] [])
  rcases bC h with⟨hb30,h⟩ | ⟨hb30,h⟩
  ·rcases bC h with⟨hb31,h⟩ | ⟨hb31,h⟩
   ·refine dX ⟨[(2,false),(5,false),(8,false),(9,false),(13,true),(16,true),(18,true),(25,true)],[]⟩ [(3,5,an hb23),(6,7,oc hb24),(8,8,oc (And.intro hb23 hb24)),(9,9,oc hb23),(14,15,an hb30),(16,16,oc hb30),(19,21,oc hb31),(24,25,oc hb31)] ?_
    exact eN h (gg [] [])
   rcases bC h with⟨hb32,h⟩ | ⟨hb32,h⟩
   ·refine dX ⟨[(2,false),(5,false),(8,false),(9,false),(13,true),(16,true),(18,false),(21,true),(24,true),(25,false)],[]⟩ [(3,5,an hb23),(6,7,oc hb24),(8,8,oc (And.intro hb23 hb24)),(9,9,oc hb23),(14,15,an hb30),(16,16,oc hb30),(19,21,an hb31),(22,23,an hb32),(24,24,oc (And.intro hb31 hb32)),(25,25,oc hb31)] ?_
    exact eN h (gg [] [])
   refine dX ⟨[(2,false),(5,false),(8,false),(9,false),(13,true),(16,true),(18,false),(21,false),(24,false),(25,false)],[]⟩ [(3,5,an hb23),(6,7,oc hb24),(8,8,oc (And.intro hb23 hb24)),(9,9,oc hb23),(14,15,an hb30),(16,16,oc hb30),(19,21,an hb31),(22,23,oc hb32),(24,24,oc (And.intro hb31 hb32)),(25,25,oc hb31)] ?_
   exact eN h (gg [] [])
  rcases bC h with⟨hb33,h⟩ | ⟨hb33,h⟩
  ·refine dX ⟨[(2,false),(5,false),(8,false),(9,false),(13,false),(16,false),(21,true),(24,true)],[]⟩ [(3,5,an hb23),(6,7,oc hb24),(8,8,oc (And.intro hb23 hb24)),(9,9,oc hb23),(14,16,oc hb30),(22,23,an hb33),(24,24,oc hb33)] ?_
   exact eN h (gg [] [])
  refine dX ⟨[(2,false),(5,false),(8,false),(9,false),(13,false),(16,false),(21,false),(24,false)],[]⟩ [(3,5,an hb23),(6,7,oc hb24),(8,8,oc (And.intro hb23 hb24)),(9,9,oc hb23),(14,16,oc hb30),(22,24,oc hb33)] ?_
  exact eN h (gg [] [])
 refine aA (aQ ?_)
 obtain rfl:=sI h
 exact aK [.bool] (by kernel_rfl)
def cZ(code1 at1:Int)(p1:List UInt8)(p2 p3 p4 p5 p6 p7 p8:Int)(o1:List (List UInt8))(o2:List Int)(o3:List (Int×Tree×Tree))(o4:List (List UInt8))(o5:List Int):Option (Int×Int) :=
 (((if(p7 == (0:Int))=true then some ((code1,at1))
 else some ((p7,p8)))).bind fun(v5,v6)=>some (v5,v6))
theorem dN{code1:Int}{at1:Int}{p1:List UInt8}{p2:Int}{p3:Int}{p4:Int}{p5:Int}{p6:Int}{p7:Int}{p8:Int}{o1:List (List UInt8)}{o2:List Int}{o3:List (Int×Tree×Tree)}{o4:List (List UInt8)}{o5:List Int}{res:Int×Int}(h:cZ code1 at1 p1 p2 p3 p4 p5 p6 p7 p8 o1 o2 o3 o4 o5=some res):
  Owns Tryd.prog 38 [.adr 0 0 13 0,.i64 code1,.i64 at1] (bS p1 p2 p3 p4 p5 p6 p7 p8 o1 o2 o3 o4 o5) (.tup []) (bS p1 p2 p3 p4 p5 p6 res.1 res.2 o1 o2 o3 o4 o5):=by
 refine Owns.of_body bH Tryd.func38 (by kernel_rfl) rfl (nl rfl) (fun Bw w0=> ?_)
 unfold cZ at h
 refine G (cQ h (fun(v5,v6)=>aL [] (bS p1 p2 p3 p4 p5 p6 v5 v6 o1 o2 o3 o4 o5) 6 6) (fun r2 h=> ?_) (fun r2 h=> ?_))
 ·refine aS h (fun hb4 h=> ?_) (fun hb4 h=> ?_)
  ·refine G (Ge ?_)
   exact eN h (gg [] [0,1,2,3,4,5])
  refine aB ?_
  exact eN h (gg [] [0,1,2,3,4,5])
 obtain⟨v5,v6⟩:=r2
 obtain rfl:=sI h
 exact(aE [] [] [0,1,2,3,4,5] [] (bS p1 p2 p3 p4 p5 p6 v5 v6 o1 o2 o3 o4 o5) 6 6 (by kernel_rfl) (by kernel_rfl) (by kernel_rfl)).normal
def eI(d1:List UInt8):(Int)→Option ((Int)⊕(Int)):=fun d37 =>
 (((if(decide (d37<(d1.length:Int)))=true then(if 0≤d37∧d37<(d1.length:Int)then some ((((d1.getD d37.toNat 0).toNat:Int) != (10:Int)))else none)
 else some (false))).bind fun v48=>(if v48=true then some (Sum.inl (IntKind.i64.wrap (d37+(1:Int))))
 else some (Sum.inr d37)))
def gA(d1:List UInt8)(d33 d34 d35:Int):(Int)→Option ((Int)⊕((Unit)⊕(Int×Int×Int×Int))):=fun v51 =>
 (if(decide (v51<(([40,41,91,93,94,124,42,43,63,46,59,47,61]:List UInt8).length:Int)))=true then(if 0≤v51∧v51<(([40,41,91,93,94,124,42,43,63,46,59,47,61]:List UInt8).length:Int)then(if(((([40,41,91,93,94,124,42,43,63,46,59,47,61]:List UInt8).getD v51.toNat 0).toNat:Int) == ((d1.getD d33.toNat 0).toNat:Int))=true then some (Sum.inr (Sum.inr (((d1.getD d33.toNat 0).toNat:Int),d33,d34,d35)))
 else some (Sum.inl (IntKind.i64.wrap (v51+(1:Int)))))else none)
 else some (Sum.inr (Sum.inl ())))
def cS(d1:List UInt8)(d3 d4 d5 d6:Int)(o1:List (List UInt8))(o2:List Int)(o3:List (Int×Tree×Tree))(o4:List (List UInt8))(o5:List Int):(Int×Int×Int)→Option ((Int×Int×Int)⊕((Int×Int×Int)⊕(Int×Int×Int×Int))):=fun(d33,d34,d35) =>
 (((if(d34 == (0:Int))=true then some ((decide (d33<(d1.length:Int))))
 else some (false))).bind fun v45=>(if v45=true then(if 0≤d33∧d33<(d1.length:Int)then(if(((d1.getD d33.toNat 0).toNat:Int) == (35:Int))=true then((iter (eI d1) d33).bind fun d38=>some (Sum.inl (d38,d34,d35)))
 else(((if(((d1.getD d33.toNat 0).toNat:Int) == (32:Int))=true then some (true)
 else(if(((d1.getD d33.toNat 0).toNat:Int) == (9:Int))=true then some (true)
 else(if(((d1.getD d33.toNat 0).toNat:Int) == (10:Int))=true then some (true)
 else some ((((d1.getD d33.toNat 0).toNat:Int) == (13:Int))))))).bind fun v49=>(if v49=true then some (Sum.inl ((IntKind.i64.wrap (d33+(1:Int))),d34,d35))
 else((iter (gA d1 d33 d34 d35) (0:Int)).bind fun(r54:((Unit)⊕(Int×Int×Int×Int)))=>match r54 with
 | .inl _=>((iD ((d1.getD d33.toNat 0).toNat:Int)).bind fun r56 =>
 (if r56=true then some (Sum.inr (Sum.inr (((d1.getD d33.toNat 0).toNat:Int),d33,d34,d35)))
 else((cZ (20:Int) d33 d1 d33 d3 d4 d5 d6 d34 d35 o1 o2 o3 o4 o5).bind fun(r59,r60) =>
 some (Sum.inl (d33,r59,r60)))))
 | .inr ((r50,r51,r52,r53))=>some (Sum.inr (Sum.inr (r50,r51,r52,r53)))))))else none)
 else some (Sum.inr (Sum.inl (d33,d34,d35)))))
def gC(d1:List UInt8)(d2 d3 d4 d5 d6 d7 d8:Int)(o1:List (List UInt8))(o2:List Int)(o3:List (Int×Tree×Tree))(o4:List (List UInt8))(o5:List Int):Option (Int×Int×Int×Int) :=
 ((iter (cS d1 d3 d4 d5 d6 o1 o2 o3 o4 o5) (d2,d7,d8)).bind fun(r61:((Int×Int×Int)⊕(Int×Int×Int×Int)))=>match r61 with
 | .inl (v42,v43,v44)=>some ((0:Int),v42,v43,v44)
 | .inr ((r46,r47,r48,r49))=>some (r46,r47,r48,r49))
theorem jY{d1:List UInt8}{d2:Int}{d3:Int}{d4:Int}{d5:Int}{d6:Int}{d7:Int}{d8:Int}{o1:List (List UInt8)}{o2:List Int}{o3:List (Int×Tree×Tree)}{o4:List (List UInt8)}{o5:List Int}{res:Int×Int×Int×Int}(h:gC d1 d2 d3 d4 d5 d6 d7 d8 o1 o2 o3 o4 o5=some res):
  Owns Tryd.prog 27 [.adr 0 0 13 0] (bS d1 d2 d3 d4 d5 d6 d7 d8 o1 o2 o3 o4 o5) (.u8 res.1) (bS d1 res.2.1 d3 d4 d5 d6 res.2.2.1 res.2.2.2 o1 o2 o3 o4 o5):=by
 refine Owns.of_body bH Tryd.func27 (by kernel_rfl) rfl (nl rfl) (fun Bw w0=> ?_)
 unfold gC at h
 refine G (aD (aF (qY h (fun(d33,d34,d35)=>aL [(0,.adr 0 0 13 0)] (bS d1 d33 d3 d4 d5 d6 d34 d35 o1 o2 o3 o4 o5) 6 6) (gO (jR Tryd.f27.ntmps 0 (fun(v42,v43,v44)=>aL [] (bS d1 v42 d3 d4 d5 d6 v43 v44 o1 o2 o3 o4 o5) 6 6)) (yV tb Tryd.f27.ntmps Tryd.f27.results.toList (fun(r46,r47,r48,r49)=>(.u8 r46,(bS d1 r47 d3 d4 d5 d6 r48 r49 o1 o2 o3 o4 o5))))) (gg [] [0,1,2,3,4,5]) (fun y o h=> ?_) (fun r61 h e σ' hq=> ?_))))
 ·obtain⟨d33,d34,d35⟩:=y
  unfold cS at h
  refine aD (aD (cQ h (fun v45=>aL [(0,.adr 0 0 13 0),(22,.bo v45)] (bS d1 d33 d3 d4 d5 d6 d34 d35 o1 o2 o3 o4 o5) 6 6) (fun v45 h=> ?_) (fun v45 h=> ?_)))
  ·rcases bC h with⟨hb173,h⟩ | ⟨hb173,h⟩
   ·refine vA ⟨[(5,true),(16,true)],[]⟩ [(6,15,an hb173),(16,16,oc hb173)] ?_
    exact eN h (gg [] [0,1,2,3,4,5])
   refine vA ⟨[(5,false),(16,false)],[]⟩ [(6,16,oc hb173)] ?_
   exact eN h (gg [] [0,1,2,3,4,5])
  refine aA (aS h (fun hb174 h=> ?_) (fun hb174 h=> ?_))
  ·refine aB (aA (aF ?_))
   obtain⟨c87,h⟩:=bA h
   refine GD a0 [(8,8,oc c87)] (aF (G (aS h (fun hb175 h=> ?_) (fun hb175 h=> ?_))))
   ·refine aF (iK h (fun d37=>aL [(0,.adr 0 0 13 0)] (bS d1 d37 d3 d4 d5 d6 d34 d35 o1 o2 o3 o4 o5) 6 6) 5 (fun d38=>aL [(0,.adr 0 0 13 0)] (bS d1 d38 d3 d4 d5 d6 d34 d35 o1 o2 o3 o4 o5) 6 6) (gg [] [0,1,2,3,4,5]) (fun d37 o h=> ?_) (fun d38 h=> ?_))
    ·unfold eI at h
     refine aD (aD (cQ h (fun v48=>aL [(0,.adr 0 0 13 0),(77,.bo v48)] (bS d1 d37 d3 d4 d5 d6 d34 d35 o1 o2 o3 o4 o5) 6 6) (fun v48 h=> ?_) (fun v48 h=> ?_)))
     ·rcases bC h with⟨hb186,h⟩ | ⟨hb186,h⟩
      ·obtain⟨c96,h⟩:=bA h
       refine vA ⟨[(10,true),(21,true)],[]⟩ [(11,18,an hb186),(19,19,oc (And.intro hb186 c96)),(20,20,an hb186),(21,21,oc hb186)] ?_
       exact eN h (gg [] [0,1,2,3,4,5])
      refine vA ⟨[(10,false),(21,false)],[]⟩ [(11,21,oc hb186)] ?_
      exact eN h (gg [] [0,1,2,3,4,5])
     refine aA (aS h (fun hb187 h=> ?_) (fun hb187 h=> ?_))
     ·refine aB (aA (aF (Ge (aI ?_))))
      exact eB h (gg [] [0,1,2,3,4,5])
     refine aM (bM ?_)
     exact eX h (gg [] [0,1,2,3,4,5])
    refine aO (aI (aI ?_))
    exact eB h (gg [] [0,1,2,3,4,5])
   refine aD (cQ h (fun v49=>aL [(0,.adr 0 0 13 0),(3,.u8 ((d1.getD d33.toNat 0).toNat:Int)),(86,.bo v49)] (bS d1 d33 d3 d4 d5 d6 d34 d35 o1 o2 o3 o4 o5) 6 6) (fun v49 h=> ?_) (fun v49 h=> ?_))
   ·rcases bC h with⟨hb194,h⟩ | ⟨hb194,h⟩
    ·refine dX ⟨[(2,true),(5,true)],[]⟩ [(3,5,oc hb194)] ?_
     exact eN h (gg [] [0,1,2,3,4,5])
    rcases bC h with⟨hb195,h⟩ | ⟨hb195,h⟩
    ·refine dX ⟨[(2,false),(5,false),(6,true),(9,true)],[]⟩ [(3,4,an hb194),(5,5,oc hb194),(7,9,oc hb195)] ?_
     exact eN h (gg [] [0,1,2,3,4,5])
    rcases bC h with⟨hb196,h⟩ | ⟨hb196,h⟩
    ·refine dX ⟨[(2,false),(5,false),(6,false),(9,false),(10,true),(13,true)],[]⟩ [(3,4,an hb194),(5,5,oc hb194),(7,8,an hb195),(9,9,oc hb195),(11,13,oc hb196)] ?_
     exact eN h (gg [] [0,1,2,3,4,5])
    refine dX ⟨[(2,false),(5,false),(6,false),(9,false),(10,false),(13,false)],[]⟩ [(3,4,an hb194),(5,5,oc hb194),(7,8,an hb195),(9,9,oc hb195),(11,12,an hb196),(13,13,oc hb196)] ?_
    exact eN h (gg [] [0,1,2,3,4,5])
   refine aA (aS h (fun hb197 h=> ?_) (fun hb197 h=> ?_))
   ·refine Ge (aI (aI ?_))
    exact eB h (gg [] [0,1,2,3,4,5])
   refine G (aD (G (aF (qY h (fun v51=>aL [(0,.adr 0 0 13 0),(3,.u8 ((d1.getD d33.toNat 0).toNat:Int)),(4,.st ([40,41,91,93,94,124,42,43,63,46,59,47,61]:List UInt8)),(5,.i64 v51)] (bS d1 d33 d3 d4 d5 d6 d34 d35 o1 o2 o3 o4 o5) 6 6) (gO (jR Tryd.f27.ntmps 3 (fun _=>aL [(0,.adr 0 0 13 0),(3,.u8 ((d1.getD d33.toNat 0).toNat:Int))] (bS d1 d33 d3 d4 d5 d6 d34 d35 o1 o2 o3 o4 o5) 6 6)) (yV tb Tryd.f27.ntmps Tryd.f27.results.toList (fun(r50,r51,r52,r53)=>(.u8 r50,(bS d1 r51 d3 d4 d5 d6 r52 r53 o1 o2 o3 o4 o5))))) (gg [] [0,1,2,3,4,5]) (fun v51 o h=> ?_) (fun r54 h e σ' hq=> ?_)))))
   ·unfold gA at h
    refine aD (G (aS h (fun hb202 h=> ?_) (fun hb202 h=> ?_)))
    ·refine aB (aA (aD (aF (GC 2 h (fun h=>aS h (fun hb203 h=> ?_) (fun hb203 h=> ?_))))))
     ·refine G (aQ ?_)
      obtain rfl:=sI h
      refine aR (aG (eA (aX ?_)))
      exact nT (aE [some (.int .u8)] [] [0,1,2,3,4,5] [(2,.u8 ((d1.getD d33.toNat 0).toNat:Int))] (bS d1 d33 d3 d4 d5 d6 d34 d35 o1 o2 o3 o4 o5) 6 6 (by kernel_rfl) (by kernel_rfl) (by kernel_rfl))
     refine aB (aI (aA (Ge ?_)))
     exact eB h (gg [] [0,1,2,3,4,5])
    refine aM (bM ?_)
    obtain rfl:=sI h
    refine g9 (cO ?_)
    exact dM (gg [] [0,1,2,3,4,5])
   rcases r54 with _ | ⟨r50,r51,r52,r53⟩
   ·obtain⟨rfl,hle⟩:=hq
    refine f8 ?_ hle
    refine aO (aA (aD ?_))
    obtain⟨r56,q22,h⟩:=aC h
    refine GP 1 (hJ q22) (aS h (fun hb204 h=> ?_) (fun hb204 h=> ?_))
    ·refine G (aQ ?_)
     obtain rfl:=sI h
     refine aG (aR (aR (eA (aX ?_))))
     exact nT (aE [some (.int .u8)] [] [0,1,2,3,4,5] [(2,.u8 ((d1.getD d33.toNat 0).toNat:Int))] (bS d1 d33 d3 d4 d5 d6 d34 d35 o1 o2 o3 o4 o5) 6 6 (by kernel_rfl) (by kernel_rfl) (by kernel_rfl))
    refine aB (aA ?_)
    obtain⟨⟨r59,r60⟩,q24,h⟩:=aC h
    refine lR 5 [0,1,2,3,4,5] (dN q24) (aI (aI ?_))
    exact eB h (gg [] [0,1,2,3,4,5])
   obtain⟨rfl,hr⟩:=hq
   obtain rfl:=sI h
   refine aR (aG (aR (aR (eA (aX ?_)))))
   exact nT hr
  refine aM (bM ?_)
  obtain rfl:=sI h
  refine g9 (cO ?_)
  exact dM (gg [] [0,1,2,3,4,5])
 rcases r61 with⟨v42,v43,v44⟩ | ⟨r46,r47,r48,r49⟩
 ·obtain⟨rfl,hle⟩:=hq
  refine f8 ?_ hle
  refine aO (aA (G (aQ ?_)))
  obtain rfl:=sI h
  exact aE [some (.int .u8)] [] [0,1,2,3,4,5] [(2,.u8 (0:Int))] (bS d1 v42 d3 d4 d5 d6 v43 v44 o1 o2 o3 o4 o5) 6 6 (by kernel_rfl) (by kernel_rfl) (by kernel_rfl)
 obtain⟨rfl,hr⟩:=hq
 refine aR (aG ?_)
 obtain rfl:=sI h
 exact hr
def fK(d1:List UInt8):(Int)→Option ((Int)⊕(Int)):=fun d17 =>
 (((if(decide (d17<(d1.length:Int)))=true then(if 0≤d17∧d17<(d1.length:Int)then((iD ((d1.getD d17.toNat 0).toNat:Int)).bind fun r60 =>
 some (r60))else none)
 else some (false))).bind fun v11=>(if v11=true then some (Sum.inl (IntKind.i64.wrap (d17+(1:Int))))
 else some (Sum.inr d17)))
def eC(d1:List UInt8)(d2 d3 d4 d5 d6 d7 d8:Int)(o1:List (List UInt8))(o2:List Int)(o3:List (Int×Tree×Tree))(o4:List (List UInt8))(o5:List Int):Option ((List UInt8)×Int×Int×Int×Int) :=
 ((gC d1 d2 d3 d4 d5 d6 d7 d8 o1 o2 o3 o4 o5).bind fun(r36,r37,r38,r39) =>
 (((if(r38 == (0:Int))=true then((iD r36).bind fun r42 =>
 some ((!r42)))
 else some (false))).bind fun v8=>(((if v8=true then((cZ (21:Int) r37 d1 r37 d3 d4 d5 d6 r38 r39 o1 o2 o3 o4 o5).bind fun(r49,r50) =>
 some ((r49,r50)))
 else some ((r38,r39)))).bind fun(d14,d15)=>(if(d14 != (0:Int))=true then some (([]:List UInt8),r37,r37,d14,d15)
 else((iter (fK d1) r37).bind fun d18=>(if 0≤r37∧r37≤d18∧d18≤(d1.length:Int)then some (((d1.take d18.toNat).drop r37.toNat),r37,d18,d14,d15)else none))))))
theorem mB{d1:List UInt8}{d2:Int}{d3:Int}{d4:Int}{d5:Int}{d6:Int}{d7:Int}{d8:Int}{o1:List (List UInt8)}{o2:List Int}{o3:List (Int×Tree×Tree)}{o4:List (List UInt8)}{o5:List Int}{res:(List UInt8)×Int×Int×Int×Int}(h:eC d1 d2 d3 d4 d5 d6 d7 d8 o1 o2 o3 o4 o5=some res):
  Owns Tryd.prog 39 [.adr 0 0 13 0] (bS d1 d2 d3 d4 d5 d6 d7 d8 o1 o2 o3 o4 o5) (.tup [.st res.1,.i64 res.2.1]) (bS d1 res.2.2.1 d3 d4 d5 d6 res.2.2.2.1 res.2.2.2.2 o1 o2 o3 o4 o5):=by
 refine Owns.of_body bH Tryd.func39 (by kernel_rfl) rfl (nl rfl) (fun Bw w0=> ?_)
 unfold eC at h
 refine G ?_
 obtain⟨⟨r36,r37,r38,r39⟩,q20,h⟩:=aC h
 refine GO 1 [0,1,2,3,4,5] (jY q20) (G (aD (aD (cQ h (fun v8=>aL [(0,.adr 0 0 13 0),(5,.i64 r37),(21,.bo v8)] (bS d1 r37 d3 d4 d5 d6 r38 r39 o1 o2 o3 o4 o5) 6 6) (fun v8 h=> ?_) (fun v8 h=> ?_)))))
 ·rcases bC h with⟨hb21,h⟩ | ⟨hb21,h⟩
  ·obtain⟨r42,q23,h⟩:=aC h
   have u_1:=(hJ q23)
   refine dX ⟨[(5,true),(9,true)],[(7,(oP u_1))]⟩ [(6,6,an hb21),(7,7,oc (And.intro hb21 u_1)),(8,8,an hb21),(9,9,oc hb21)] ?_
   exact eN h (gg [] [0,1,2,3,4,5])
  refine dX ⟨[(5,false),(9,false)],[]⟩ [(6,9,oc hb21)] ?_
  exact eN h (gg [] [0,1,2,3,4,5])
 refine aA (cQ h (fun(d14,d15)=>aL [(0,.adr 0 0 13 0),(5,.i64 r37)] (bS d1 r37 d3 d4 d5 d6 d14 d15 o1 o2 o3 o4 o5) 6 6) (fun r51 h=> ?_) (fun r51 h=> ?_))
 ·refine aS h (fun hb23 h=> ?_) (fun hb23 h=> ?_)
  ·obtain⟨⟨r49,r50⟩,q27,h⟩:=aC h
   refine lR 2 [0,1,2,3,4,5] (dN q27) ?_
   exact eN h (gg [] [0,1,2,3,4,5])
  refine aB ?_
  exact eN h (gg [] [0,1,2,3,4,5])
 obtain⟨d14,d15⟩:=r51
 refine aA (aD (G (aS h (fun hb24 h=> ?_) (fun hb24 h=> ?_))))
 ·refine G (aQ (aG ?_))
  obtain rfl:=sI h
  exact aE [some .str,some (.int .i64)] [] [0,1,2,3,4,5] [(2,.st ([]:List UInt8)),(3,.i64 r37)] (bS d1 r37 d3 d4 d5 d6 d14 d15 o1 o2 o3 o4 o5) 6 6 (by kernel_rfl) (by kernel_rfl) (by kernel_rfl)
 refine aB (aA (aD (aF (iK h (fun d17=>aL [(0,.adr 0 0 13 0),(5,.i64 r37)] (bS d1 d17 d3 d4 d5 d6 d14 d15 o1 o2 o3 o4 o5) 6 6) 0 (fun d18=>aL [(0,.adr 0 0 13 0),(5,.i64 r37)] (bS d1 d18 d3 d4 d5 d6 d14 d15 o1 o2 o3 o4 o5) 6 6) (gg [] [0,1,2,3,4,5]) (fun d17 o h=> ?_) (fun d18 h=> ?_)))))
 ·unfold fK at h
  refine aD (aD (cQ h (fun v11=>aL [(0,.adr 0 0 13 0),(5,.i64 r37),(52,.bo v11)] (bS d1 d17 d3 d4 d5 d6 d14 d15 o1 o2 o3 o4 o5) 6 6) (fun v11 h=> ?_) (fun v11 h=> ?_)))
  ·rcases bC h with⟨hb35,h⟩ | ⟨hb35,h⟩
   ·obtain⟨c20,h⟩:=bA h
    obtain⟨r60,q36,h⟩:=aC h
    have u_1:=(hJ q36)
    refine vA ⟨[(10,true),(21,true)],[(20,(oP u_1))]⟩ [(11,18,an hb35),(19,19,oc (And.intro hb35 c20)),(20,20,oc (And.intro hb35 u_1)),(21,21,oc hb35)] ?_
    exact eN h (gg [] [0,1,2,3,4,5])
   refine vA ⟨[(10,false),(21,false)],[]⟩ [(11,21,oc hb35)] ?_
   exact eN h (gg [] [0,1,2,3,4,5])
  refine aA (aS h (fun hb36 h=> ?_) (fun hb36 h=> ?_))
  ·refine aB (aA (aF (Ge (aI ?_))))
   exact eB h (gg [] [0,1,2,3,4,5])
  refine aM (bM ?_)
  exact eX h (gg [] [0,1,2,3,4,5])
 refine aO (aA ?_)
 obtain⟨c22,h⟩:=bA h
 refine GD a0 [(9,9,oc c22)] (aQ ?_)
 obtain rfl:=sI h
 exact aE [some .str,some (.int .i64)] [] [0,1,2,3,4,5] [(2,.st ((d1.take d18.toNat).drop r37.toNat)),(3,.i64 r37)] (bS d1 d18 d3 d4 d5 d6 d14 d15 o1 o2 o3 o4 o5) 6 6 (by kernel_rfl) (by kernel_rfl) (by kernel_rfl)
def aN(c1:Int)(p1:List UInt8)(p2 p3 p4 p5 p6 p7 p8:Int)(o1:List (List UInt8))(o2:List Int)(o3:List (Int×Tree×Tree))(o4:List (List UInt8))(o5:List Int):Option (Bool×Int×Int×Int) :=
 ((gC p1 p2 p3 p4 p5 p6 p7 p8 o1 o2 o3 o4 o5).bind fun(r14,r15,r16,r17) =>
 (((if(r16 != (0:Int))=true then some (true)
 else some ((r14 != c1)))).bind fun v5=>(if v5=true then some (false,r15,r16,r17)
 else some (true,(IntKind.i64.wrap (r15+(1:Int))),r16,r17))))
theorem cU{c1:Int}{p1:List UInt8}{p2:Int}{p3:Int}{p4:Int}{p5:Int}{p6:Int}{p7:Int}{p8:Int}{o1:List (List UInt8)}{o2:List Int}{o3:List (Int×Tree×Tree)}{o4:List (List UInt8)}{o5:List Int}{res:Bool×Int×Int×Int}(h:aN c1 p1 p2 p3 p4 p5 p6 p7 p8 o1 o2 o3 o4 o5=some res):
  Owns Tryd.prog 40 [.adr 0 0 13 0,.u8 c1] (bS p1 p2 p3 p4 p5 p6 p7 p8 o1 o2 o3 o4 o5) (.bo res.1) (bS p1 res.2.1 p3 p4 p5 p6 res.2.2.1 res.2.2.2 o1 o2 o3 o4 o5):=by
 refine Owns.of_body bH Tryd.func40 (by kernel_rfl) rfl (nl rfl) (fun Bw w0=> ?_)
 unfold aN at h
 refine G ?_
 obtain⟨⟨r14,r15,r16,r17⟩,q4,h⟩:=aC h
 refine GO 1 [0,1,2,3,4,5] (jY q4) (aD (aD (cQ h (fun v5=>aL [(0,.adr 0 0 13 0),(17,.bo v5)] (bS p1 r15 p3 p4 p5 p6 r16 r17 o1 o2 o3 o4 o5) 6 6) (fun v5 h=> ?_) (fun v5 h=> ?_))))
 ·rcases bC h with⟨hb7,h⟩ | ⟨hb7,h⟩
  ·refine dX ⟨[(5,true),(9,true)],[]⟩ [(6,9,oc hb7)] ?_
   exact eN h (gg [] [0,1,2,3,4,5])
  refine dX ⟨[(5,false),(9,false)],[]⟩ [(6,8,an hb7),(9,9,oc hb7)] ?_
  exact eN h (gg [] [0,1,2,3,4,5])
 refine aA (aS h (fun hb8 h=> ?_) (fun hb8 h=> ?_))
 ·refine G (aQ (aG ?_))
  obtain rfl:=sI h
  exact aE [some .bool] [] [0,1,2,3,4,5] [(4,.bo false)] (bS p1 r15 p3 p4 p5 p6 r16 r17 o1 o2 o3 o4 o5) 6 6 (by kernel_rfl) (by kernel_rfl) (by kernel_rfl)
 refine aB (aA (G (G (aQ ?_))))
 obtain rfl:=sI h
 exact aE [some .bool] [] [0,1,2,3,4,5] [(4,.bo true)] (bS p1 (IntKind.i64.wrap (r15+(1:Int))) p3 p4 p5 p6 r16 r17 o1 o2 o3 o4 o5) 6 6 (by kernel_rfl) (by kernel_rfl) (by kernel_rfl)
def dE(p8:List (List UInt8))(s1:List UInt8):(Int)→Option ((Int)⊕((Unit)⊕(Int))):=fun i2 =>
 (if(decide (i2<(p8.length:Int)))=true then(if 0≤i2∧i2<(p8.length:Int)then(if((p8.getD i2.toNat ([]:List UInt8)) == s1)=true then some (Sum.inr (Sum.inr i2))
 else some (Sum.inl (IntKind.i64.wrap (i2+(1:Int)))))else none)
 else some (Sum.inr (Sum.inl ())))
def lU(p1:List UInt8)(p2:Int)(p3:List (List UInt8))(p4 p5:Int)(p6:List Int)(p7:List (Int×Tree×Tree))(p8:List (List UInt8))(p9:List Int)(p10 p11 p12 p13:Int)(s1:List UInt8):Option (Int) :=
 ((iter (dE p8 s1) (0:Int)).bind fun(r2:((Unit)⊕(Int)))=>match r2 with
 | .inl _=>some (-1:Int)
 | .inr (r1)=>some r1)
theorem uS(β2 β5 β6 β7 β8:Bool){p1:List UInt8}{p2:Int}{p3:List (List UInt8)}{p4:Int}{p5:Int}{p6:List Int}{p7:List (Int×Tree×Tree)}{p8:List (List UInt8)}{p9:List Int}{p10:Int}{p11:Int}{p12:Int}{p13:Int}{s1:List UInt8}{res:Int}(h:lU p1 p2 p3 p4 p5 p6 p7 p8 p9 p10 p11 p12 p13 s1=some res):
  Pure Tryd.prog 68 [.fad true [.st p1,.i64 p2,.p β2 (.slice .str) p3,.u32 p4,.u32 p5,.p β5 (.slice (.int .i64)) p6,.p β6 (.slice (.prod (.int .u8) Y1)) p7,.p β7 (.slice .str) p8,.p β8 (.slice (.int .u32)) p9,.i64 p10,.i64 p11,.i64 p12,.i64 p13] 0,.st s1] (b8 (fR false [⟨(.int .i64),res⟩])):=by
 refine Pure.of_body bH Tryd.func68 (by kernel_rfl) rfl (nl rfl) (fun Bw w0=> ?_) rfl
 unfold lU at h
 refine G (aD (G (aF (qY h (fun i2=>aL [(0,.fad true [.st p1,.i64 p2,.p β2 (.slice .str) p3,.u32 p4,.u32 p5,.p β5 (.slice (.int .i64)) p6,.p β6 (.slice (.prod (.int .u8) Y1)) p7,.p β7 (.slice .str) p8,.p β8 (.slice (.int .u32)) p9,.i64 p10,.i64 p11,.i64 p12,.i64 p13] 0),(1,.st s1),(5,.i64 i2)] [] 0) (gO (jR Tryd.f68.ntmps 0 (fun _=>aL [] [] 0)) (tK tb Tryd.f68.results.toList (fun r1=>[⟨(.int .i64),r1⟩]))) (gg [] []) (fun i2 o h=> ?_) (fun r2 h e σ' hq=> ?_)))))
 ·unfold dE at h
  refine aD (G (aS h (fun hb5 h=> ?_) (fun hb5 h=> ?_)))
  ·refine aB (aA (aD (aF (GC 5 h (fun h=>aS h (fun hb6 h=> ?_) (fun hb6 h=> ?_))))))
   ·refine G (aQ ?_)
    obtain rfl:=sI h
    refine aR (aG (eA (aX ?_)))
    exact jT (aK [(.int .i64)] (by kernel_rfl))
   refine aB (aI (aA (Ge ?_)))
   exact eB h (gg [] [])
  refine aM (bM ?_)
  obtain rfl:=sI h
  refine g9 (cO ?_)
  exact dM (gg [] [])
 rcases r2 with _ | r1
 ·obtain⟨rfl,hle⟩:=hq
  refine f8 ?_ hle
  refine aO (aA (G (aQ ?_)))
  obtain rfl:=sI h
  exact aK [(.int .i64)] (by kernel_rfl)
 obtain⟨rfl,hr⟩:=hq
 refine aR (aG ?_)
 obtain rfl:=sI h
 exact hr
def gN(p1:List UInt8)(p2 p3 p4 p5 p6 p7 p8:Int)(o1:List (List UInt8))(o2:List Int)(o3:List (Int×Tree×Tree))(o4:List (List UInt8))(o5:List Int):Option ((List UInt8)×Int×Int×Int×Int) :=
 ((eC p1 p2 p3 p4 p5 p6 p7 p8 o1 o2 o3 o4 o5).bind fun(r30,r31,r32,r33,r34) =>
 (((if(r33 == (0:Int))=true then((lU p1 r32 o1 p3 p4 o2 o3 o4 o5 p5 p6 r33 r34 r30).bind fun r37 =>
 some ((decide (r37≥(0:Int)))))
 else some (false))).bind fun v7=>(((if v7=true then((cZ (23:Int) r31 p1 r32 p3 p4 p5 p6 r33 r34 o1 o2 o3 o4 o5).bind fun(r44,r45) =>
 some ((r44,r45)))
 else some ((r33,r34)))).bind fun(v8,v9)=>some (r30,r31,r32,v8,v9))))
theorem tG{p1:List UInt8}{p2:Int}{p3:Int}{p4:Int}{p5:Int}{p6:Int}{p7:Int}{p8:Int}{o1:List (List UInt8)}{o2:List Int}{o3:List (Int×Tree×Tree)}{o4:List (List UInt8)}{o5:List Int}{res:(List UInt8)×Int×Int×Int×Int}(h:gN p1 p2 p3 p4 p5 p6 p7 p8 o1 o2 o3 o4 o5=some res):
  Owns Tryd.prog 41 [.adr 0 0 13 0] (bS p1 p2 p3 p4 p5 p6 p7 p8 o1 o2 o3 o4 o5) (.tup [.st res.1,.i64 res.2.1]) (bS p1 res.2.2.1 p3 p4 p5 p6 res.2.2.2.1 res.2.2.2.2 o1 o2 o3 o4 o5):=by
 refine Owns.of_body bH Tryd.func41 (by kernel_rfl) rfl (nl rfl) (fun Bw w0=> ?_)
 unfold gN at h
 refine G ?_
 obtain⟨⟨r30,r31,r32,r33,r34⟩,q11,h⟩:=aC h
 refine GO 1 [0,1,2,3,4,5] (mB q11) (aD (aD (cQ h (fun v7=>aL [(0,.adr 0 0 13 0),(4,.st r30),(5,.i64 r31),(21,.bo v7)] (bS p1 r32 p3 p4 p5 p6 r33 r34 o1 o2 o3 o4 o5) 6 6) (fun v7 h=> ?_) (fun v7 h=> ?_))))
 ·rcases bC h with⟨hb8,h⟩ | ⟨hb8,h⟩
  ·obtain⟨r37,q14,h⟩:=aC h
   have u_1:=(uS true true true true true q14)
   refine dX ⟨[(5,true),(10,true)],[(8,(oP u_1))]⟩ [(6,7,an hb8),(8,8,oc (And.intro hb8 u_1)),(9,9,an hb8),(10,10,oc hb8)] ?_
   exact eN h (gg [] [0,1,2,3,4,5])
  refine dX ⟨[(5,false),(10,false)],[]⟩ [(6,10,oc hb8)] ?_
  exact eN h (gg [] [0,1,2,3,4,5])
 refine aA (cQ h (fun(v8,v9)=>aL [(4,.st r30),(5,.i64 r31)] (bS p1 r32 p3 p4 p5 p6 v8 v9 o1 o2 o3 o4 o5) 6 6) (fun r46 h=> ?_) (fun r46 h=> ?_))
 ·refine aS h (fun hb10 h=> ?_) (fun hb10 h=> ?_)
  ·obtain⟨⟨r44,r45⟩,q18,h⟩:=aC h
   refine lR 2 [0,1,2,3,4,5] (dN q18) ?_
   exact eN h (gg [] [0,1,2,3,4,5])
  refine aB ?_
  exact eN h (gg [] [0,1,2,3,4,5])
 obtain⟨v8,v9⟩:=r46
 refine aA (G (aQ ?_))
 obtain rfl:=sI h
 exact aE [some .str,some (.int .i64)] [] [0,1,2,3,4,5] [(2,.st r30),(3,.i64 r31)] (bS p1 r32 p3 p4 p5 p6 v8 v9 o1 o2 o3 o4 o5) 6 6 (by kernel_rfl) (by kernel_rfl) (by kernel_rfl)
def iF(w1:List UInt8)(bits1:Int)(p1:List UInt8)(p2 p3 p4 p5 p6 p7 p8:Int)(o1:List (List UInt8))(o2:List Int)(o3:List (Int×Tree×Tree))(o4:List (List UInt8))(o5:List Int):Option ((List (List UInt8))×List Int) :=
 (if(o4.length+([w1]:List (List UInt8)).length)*16≤140737488355328∧o4.length+([w1]:List (List UInt8)).length≤9223372036854775807 then(if(o5.length+([bits1]:List Int).length)*4≤140737488355328∧o5.length+([bits1]:List Int).length≤9223372036854775807 then some ((o4++([w1]:List (List UInt8))),(o5++([bits1]:List Int)))else none)else none)
theorem qH{w1:List UInt8}{bits1:Int}{p1:List UInt8}{p2:Int}{p3:Int}{p4:Int}{p5:Int}{p6:Int}{p7:Int}{p8:Int}{o1:List (List UInt8)}{o2:List Int}{o3:List (Int×Tree×Tree)}{o4:List (List UInt8)}{o5:List Int}{res:(List (List UInt8))×List Int}(h:iF w1 bits1 p1 p2 p3 p4 p5 p6 p7 p8 o1 o2 o3 o4 o5=some res):
  Owns Tryd.prog 42 [.adr 0 0 13 0,.st w1,.u32 bits1] (bS p1 p2 p3 p4 p5 p6 p7 p8 o1 o2 o3 o4 o5) (.tup []) (aJh p1 p2 p3 p4 p5 p6 p7 p8 o1 o2 o3 res.1 res.2):=by
 refine Owns.of_body bH Tryd.func42 (by kernel_rfl) rfl (nl rfl) (fun Bw w0=> ?_)
 unfold iF at h
 refine GC 7 h (fun h=>GCe 7 h (fun h=> ?_))
 obtain rfl:=sI h
 exact(aE [] [] [0,1,2,3,4,5,62,150] [] (aJh p1 p2 p3 p4 p5 p6 p7 p8 o1 o2 o3 (o4++([w1]:List (List UInt8))) (o5++([bits1]:List Int))) 8 6 (by kernel_rfl) (by kernel_rfl) (by kernel_rfl)).normal
def eT(c1:Int)(p1:List UInt8)(p2 p3 p4 p5 p6 p7 p8:Int)(o1:List (List UInt8))(o2:List Int)(o3:List (Int×Tree×Tree))(o4:List (List UInt8))(o5:List Int):Option (Int×Int×Int) :=
 ((aN c1 p1 p2 p3 p4 p5 p6 p7 p8 o1 o2 o3 o4 o5).bind fun(r22,r23,r24,r25) =>
 (((if(!r22)=true then((cZ (21:Int) r23 p1 r23 p3 p4 p5 p6 r24 r25 o1 o2 o3 o4 o5).bind fun(r32,r33) =>
 some ((r32,r33)))
 else some ((r24,r25)))).bind fun(v6,v7)=>some (r23,v6,v7)))
theorem iH{c1:Int}{p1:List UInt8}{p2:Int}{p3:Int}{p4:Int}{p5:Int}{p6:Int}{p7:Int}{p8:Int}{o1:List (List UInt8)}{o2:List Int}{o3:List (Int×Tree×Tree)}{o4:List (List UInt8)}{o5:List Int}{res:Int×Int×Int}(h:eT c1 p1 p2 p3 p4 p5 p6 p7 p8 o1 o2 o3 o4 o5=some res):
  Owns Tryd.prog 43 [.adr 0 0 13 0,.u8 c1] (bS p1 p2 p3 p4 p5 p6 p7 p8 o1 o2 o3 o4 o5) (.tup []) (bS p1 res.1 p3 p4 p5 p6 res.2.1 res.2.2 o1 o2 o3 o4 o5):=by
 refine Owns.of_body bH Tryd.func43 (by kernel_rfl) rfl (nl rfl) (fun Bw w0=> ?_)
 unfold eT at h
 obtain⟨⟨r22,r23,r24,r25⟩,q8,h⟩:=aC h
 refine GO 2 [0,1,2,3,4,5] (cU q8) (cQ h (fun(v6,v7)=>aL [] (bS p1 r23 p3 p4 p5 p6 v6 v7 o1 o2 o3 o4 o5) 6 6) (fun r34 h=> ?_) (fun r34 h=> ?_))
 ·refine aS h (fun hb4 h=> ?_) (fun hb4 h=> ?_)
  ·obtain⟨⟨r32,r33⟩,q12,h⟩:=aC h
   refine lR 5 [0,1,2,3,4,5] (dN q12) ?_
   exact eN h (gg [] [0,1,2,3,4,5])
  refine aB ?_
  exact eN h (gg [] [0,1,2,3,4,5])
 obtain⟨v6,v7⟩:=r34
 obtain rfl:=sI h
 exact(aE [] [] [0,1,2,3,4,5] [] (bS p1 r23 p3 p4 p5 p6 v6 v7 o1 o2 o3 o4 o5) 6 6 (by kernel_rfl) (by kernel_rfl) (by kernel_rfl)).normal
def gM(p1:List UInt8)(p2 p3 p4 p5 p6 p7 p8:Int)(o1:List (List UInt8))(o2:List Int)(o3:List (Int×Tree×Tree))(o4:List (List UInt8))(o5:List Int):Option (Int×Int×Int×Int) :=
 ((eC p1 p2 p3 p4 p5 p6 p7 p8 o1 o2 o3 o4 o5).bind fun(r23,r24,r25,r26,r27) =>
 (if(r26 != (0:Int))=true then some ((0:Int),r25,r26,r27)
 else((lU p1 r25 o1 p3 p4 o2 o3 o4 o5 p5 p6 r26 r27 r23).bind fun r29 =>
 (if(decide (r29<(0:Int)))=true then((cZ (22:Int) r24 p1 r25 p3 p4 p5 p6 r26 r27 o1 o2 o3 o4 o5).bind fun(r32,r33) =>
 some ((0:Int),r25,r32,r33))
 else(if 0≤r29∧r29<(o5.length:Int)then(if r29.toNat<o5.length then some ((o5.getD r29.toNat (0:Int)),r25,r26,r27)else none)else none)))))
theorem sG{p1:List UInt8}{p2:Int}{p3:Int}{p4:Int}{p5:Int}{p6:Int}{p7:Int}{p8:Int}{o1:List (List UInt8)}{o2:List Int}{o3:List (Int×Tree×Tree)}{o4:List (List UInt8)}{o5:List Int}{res:Int×Int×Int×Int}(h:gM p1 p2 p3 p4 p5 p6 p7 p8 o1 o2 o3 o4 o5=some res):
  Owns Tryd.prog 69 [.adr 0 0 13 0] (bS p1 p2 p3 p4 p5 p6 p7 p8 o1 o2 o3 o4 o5) (.u32 res.1) (bS p1 res.2.1 p3 p4 p5 p6 res.2.2.1 res.2.2.2 o1 o2 o3 o4 o5):=by
 refine Owns.of_body bH Tryd.func69 (by kernel_rfl) rfl (nl rfl) (fun Bw w0=> ?_)
 unfold gM at h
 refine G ?_
 obtain⟨⟨r23,r24,r25,r26,r27⟩,q8,h⟩:=aC h
 refine GO 1 [0,1,2,3,4,5] (mB q8) (aD (G (aS h (fun hb3 h=> ?_) (fun hb3 h=> ?_))))
 ·refine G (aQ (aG ?_))
  obtain rfl:=sI h
  exact aE [some (.int .u32)] [] [0,1,2,3,4,5] [(2,.u32 (0:Int))] (bS p1 r25 p3 p4 p5 p6 r26 r27 o1 o2 o3 o4 o5) 6 6 (by kernel_rfl) (by kernel_rfl) (by kernel_rfl)
 refine aB (aA ?_)
 obtain⟨r29,q10,h⟩:=aC h
 refine GP 2 (uS true true true true true q10) (aD (G (aS h (fun hb4 h=> ?_) (fun hb4 h=> ?_))))
 ·obtain⟨⟨r32,r33⟩,q12,h⟩:=aC h
  refine GO 2 [0,1,2,3,4,5] (dN q12) (G (aQ (aG ?_)))
  obtain rfl:=sI h
  exact aE [some (.int .u32)] [] [0,1,2,3,4,5] [(2,.u32 (0:Int))] (bS p1 r25 p3 p4 p5 p6 r32 r33 o1 o2 o3 o4 o5) 6 6 (by kernel_rfl) (by kernel_rfl) (by kernel_rfl)
 refine aB (aA ?_)
 obtain⟨c7,c8,h⟩:=g2 h
 refine GN a0 [(5,5,oc c7),(6,6,oc c8)] (aQ ?_)
 obtain rfl:=sI h
 exact aE [some (.int .u32)] [] [0,1,2,3,4,5] [(2,.u32 (o5.getD r29.toNat (0:Int)))] (bS p1 r25 p3 p4 p5 p6 r26 r27 o1 o2 o3 o4 o5) 6 6 (by kernel_rfl) (by kernel_rfl) (by kernel_rfl)
def b7(end1:Int)(p1:List UInt8)(p3 p4 p5 p6:Int)(o1:List (List UInt8))(o2:List Int)(o3:List (Int×Tree×Tree))(o4:List (List UInt8))(o5:List Int):(Int×Int×Int×Int)→Option ((Int×Int×Int×Int)⊕(Int×Int×Int×Int)):=fun(p33,p34,p35,out5) =>
 (((if(p34 == (0:Int))=true then((aN end1 p1 p33 p3 p4 p5 p6 p34 p35 o1 o2 o3 o4 o5).bind fun(r116,r117,r118,r119) =>
 some ((r117,r118,r119,(!r116))))
 else some ((p33,p34,p35,false)))).bind fun(p36,p37,p38,v15)=>(if v15=true then((gM p1 p36 p3 p4 p5 p6 p37 p38 o1 o2 o3 o4 o5).bind fun(r125,r126,r127,r128) =>
 some (Sum.inl (r126,r127,r128,(aJ .or .u32 out5 r125))))
 else some (Sum.inr (out5,p36,p37,p38))))
def gB(end1:Int)(p1:List UInt8)(p2 p3 p4 p5 p6 p7 p8:Int)(o1:List (List UInt8))(o2:List Int)(o3:List (Int×Tree×Tree))(o4:List (List UInt8))(o5:List Int):Option (Int×Int×Int×Int) :=
 ((iter (b7 end1 p1 p3 p4 p5 p6 o1 o2 o3 o4 o5) (p2,p7,p8,(0:Int))).bind fun(out6,v12,v13,v14)=>some (out6,v12,v13,v14))
theorem l7{end1:Int}{p1:List UInt8}{p2:Int}{p3:Int}{p4:Int}{p5:Int}{p6:Int}{p7:Int}{p8:Int}{o1:List (List UInt8)}{o2:List Int}{o3:List (Int×Tree×Tree)}{o4:List (List UInt8)}{o5:List Int}{res:Int×Int×Int×Int}(h:gB end1 p1 p2 p3 p4 p5 p6 p7 p8 o1 o2 o3 o4 o5=some res):
  Owns Tryd.prog 44 [.adr 0 0 13 0,.u8 end1] (bS p1 p2 p3 p4 p5 p6 p7 p8 o1 o2 o3 o4 o5) (.u32 res.1) (bS p1 res.2.1 p3 p4 p5 p6 res.2.2.1 res.2.2.2 o1 o2 o3 o4 o5):=by
 refine Owns.of_body bH Tryd.func44 (by kernel_rfl) rfl (nl rfl) (fun Bw w0=> ?_)
 unfold gB at h
 refine G (G (aD (aF (iK h (fun(p33,p34,p35,out5)=>aL [(0,.adr 0 0 13 0),(1,.u8 end1),(5,.u32 out5)] (bS p1 p33 p3 p4 p5 p6 p34 p35 o1 o2 o3 o4 o5) 6 6) 0 (fun(out6,v12,v13,v14)=>aL [(5,.u32 out6)] (bS p1 v12 p3 p4 p5 p6 v13 v14 o1 o2 o3 o4 o5) 6 6) (gg [] [0,1,2,3,4,5]) (fun y o h=> ?_) (fun r129 h=> ?_)))))
 ·obtain⟨p33,p34,p35,out5⟩:=y
  unfold b7 at h
  refine aD (aD (cQ h (fun(p36,p37,p38,v15)=>aL [(0,.adr 0 0 13 0),(1,.u8 end1),(5,.u32 out5),(17,.bo v15)] (bS p1 p36 p3 p4 p5 p6 p37 p38 o1 o2 o3 o4 o5) 6 6) (fun r120 h=> ?_) (fun r120 h=> ?_)))
  ·rcases bC h with⟨hb23,h⟩ | ⟨hb23,h⟩
   ·obtain⟨⟨r116,r117,r118,r119⟩,q28,h⟩:=aC h
    have u_1:=(cU q28)
    refine dX ⟨[(5,true),(10,true)],[(8,(oO u_1 [0,1,2,3,4,5]))]⟩ [(6,7,an hb23),(8,8,oc (And.intro hb23 u_1)),(9,9,an hb23),(10,10,oc hb23)] ?_
    exact eN h (gg [] [0,1,2,3,4,5])
   refine dX ⟨[(5,false),(10,false)],[]⟩ [(6,10,oc hb23)] ?_
   exact eN h (gg [] [0,1,2,3,4,5])
  obtain⟨p36,p37,p38,v15⟩:=r120
  refine aA (aS h (fun hb24 h=> ?_) (fun hb24 h=> ?_))
  ·refine aB (aA (aF ?_))
   obtain⟨⟨r125,r126,r127,r128⟩,q30,h⟩:=aC h
   refine GO 1 [0,1,2,3,4,5] (sG q30) (Ge (aI ?_))
   exact eB h (gg [] [0,1,2,3,4,5])
  refine aM (bM ?_)
  exact eX h (gg [] [0,1,2,3,4,5])
 obtain⟨out6,v12,v13,v14⟩:=r129
 refine aO (aA (G (aQ ?_)))
 obtain rfl:=sI h
 exact aE [some (.int .u32)] [] [0,1,2,3,4,5] [(4,.u32 out6)] (bS p1 v12 p3 p4 p5 p6 v13 v14 o1 o2 o3 o4 o5) 6 6 (by kernel_rfl) (by kernel_rfl) (by kernel_rfl)
def bY(o1:List (List UInt8))(r22:List UInt8)(r24 r25 r26:Int):(Int)→Option ((Int)⊕((Unit)⊕(Int×Int×Int×Int))):=fun i4 =>
 (((if(decide (i4<(o1.length:Int)))=true then some ((r25 == (0:Int)))
 else some (false))).bind fun v9=>(if v9=true then(if 0≤i4∧i4<(o1.length:Int)then(if i4.toNat<o1.length then(if((o1.getD i4.toNat ([]:List UInt8)) == r22)=true then some (Sum.inr (Sum.inr (i4,r24,r25,r26)))
 else some (Sum.inl (IntKind.i64.wrap (i4+(1:Int)))))else none)else none)
 else some (Sum.inr (Sum.inl ()))))
def gP(p1:List UInt8)(p2 p3 p4 p5 p6 p7 p8:Int)(o1:List (List UInt8))(o2:List Int)(o3:List (Int×Tree×Tree))(o4:List (List UInt8))(o5:List Int):Option (Int×Int×Int×Int) :=
 ((eC p1 p2 p3 p4 p5 p6 p7 p8 o1 o2 o3 o4 o5).bind fun(r22,r23,r24,r25,r26) =>
 ((iter (bY o1 r22 r24 r25 r26) (0:Int)).bind fun(r31:((Unit)⊕(Int×Int×Int×Int)))=>match r31 with
 | .inl _=>((cZ (22:Int) r23 p1 r24 p3 p4 p5 p6 r25 r26 o1 o2 o3 o4 o5).bind fun(r34,r35) =>
 some ((0:Int),r24,r34,r35))
 | .inr ((r27,r28,r29,r30))=>some (r27,r28,r29,r30)))
theorem sA{p1:List UInt8}{p2:Int}{p3:Int}{p4:Int}{p5:Int}{p6:Int}{p7:Int}{p8:Int}{o1:List (List UInt8)}{o2:List Int}{o3:List (Int×Tree×Tree)}{o4:List (List UInt8)}{o5:List Int}{res:Int×Int×Int×Int}(h:gP p1 p2 p3 p4 p5 p6 p7 p8 o1 o2 o3 o4 o5=some res):
  Owns Tryd.prog 45 [.adr 0 0 13 0] (bS p1 p2 p3 p4 p5 p6 p7 p8 o1 o2 o3 o4 o5) (.i64 res.1) (bS p1 res.2.1 p3 p4 p5 p6 res.2.2.1 res.2.2.2 o1 o2 o3 o4 o5):=by
 refine Owns.of_body bH Tryd.func45 (by kernel_rfl) rfl (nl rfl) (fun Bw w0=> ?_)
 unfold gP at h
 refine G ?_
 obtain⟨⟨r22,r23,r24,r25,r26⟩,q6,h⟩:=aC h
 refine GO 1 [0,1,2,3,4,5] (mB q6) (aD (G (aF (qY h (fun i4=>aL [(0,.adr 0 0 13 0),(3,.st r22),(4,.i64 r23),(5,.i64 i4)] (bS p1 r24 p3 p4 p5 p6 r25 r26 o1 o2 o3 o4 o5) 6 6) (gO (jR Tryd.f45.ntmps 0 (fun _=>aL [(0,.adr 0 0 13 0),(4,.i64 r23)] (bS p1 r24 p3 p4 p5 p6 r25 r26 o1 o2 o3 o4 o5) 6 6)) (yV tb Tryd.f45.ntmps Tryd.f45.results.toList (fun(r27,r28,r29,r30)=>(.i64 r27,(bS p1 r28 p3 p4 p5 p6 r29 r30 o1 o2 o3 o4 o5))))) (gg [] [0,1,2,3,4,5]) (fun i4 o h=> ?_) (fun r31 h e σ' hq=> ?_)))))
 ·unfold bY at h
  refine aD (aD (cQ h (fun v9=>aL [(0,.adr 0 0 13 0),(3,.st r22),(4,.i64 r23),(5,.i64 i4),(25,.bo v9)] (bS p1 r24 p3 p4 p5 p6 r25 r26 o1 o2 o3 o4 o5) 6 6) (fun v9 h=> ?_) (fun v9 h=> ?_)))
  ·rcases bC h with⟨hb28,h⟩ | ⟨hb28,h⟩
   ·refine dX ⟨[(8,true),(14,true)],[]⟩ [(9,13,an hb28),(14,14,oc hb28)] ?_
    exact eN h (gg [] [0,1,2,3,4,5])
   refine dX ⟨[(8,false),(14,false)],[]⟩ [(9,14,oc hb28)] ?_
   exact eN h (gg [] [0,1,2,3,4,5])
  refine aA (aS h (fun hb29 h=> ?_) (fun hb29 h=> ?_))
  ·refine aB (aA (aD (aF ?_)))
   obtain⟨c23,c24,h⟩:=g2 h
   refine GN a0 [(6,6,oc c23),(7,7,oc c24)] (aS h (fun hb30 h=> ?_) (fun hb30 h=> ?_))
   ·refine G (aQ ?_)
    obtain rfl:=sI h
    refine aR (aG (eA (aX ?_)))
    exact nT (aE [some (.int .i64)] [] [0,1,2,3,4,5] [(2,.i64 i4)] (bS p1 r24 p3 p4 p5 p6 r25 r26 o1 o2 o3 o4 o5) 6 6 (by kernel_rfl) (by kernel_rfl) (by kernel_rfl))
   refine aB (aI (aA (Ge ?_)))
   exact eB h (gg [] [0,1,2,3,4,5])
  refine aM (bM ?_)
  obtain rfl:=sI h
  refine g9 (cO ?_)
  exact dM (gg [] [0,1,2,3,4,5])
 rcases r31 with _ | ⟨r27,r28,r29,r30⟩
 ·obtain⟨rfl,hle⟩:=hq
  refine f8 ?_ hle
  refine aO (aA ?_)
  obtain⟨⟨r34,r35⟩,q8,h⟩:=aC h
  refine GO 2 [0,1,2,3,4,5] (dN q8) (G (aQ ?_))
  obtain rfl:=sI h
  exact aE [some (.int .i64)] [] [0,1,2,3,4,5] [(2,.i64 (0:Int))] (bS p1 r24 p3 p4 p5 p6 r34 r35 o1 o2 o3 o4 o5) 6 6 (by kernel_rfl) (by kernel_rfl) (by kernel_rfl)
 obtain⟨rfl,hr⟩:=hq
 refine aR (aG ?_)
 obtain rfl:=sI h
 exact hr
def kK(p1:List UInt8)(p2:Int)(p3:List (List UInt8))(p4 p5:Int)(p6:List Int)(p7:List (Int×Tree×Tree))(p8:List (List UInt8))(p9:List Int)(p10 p11 p12 p13:Int):Option (Int) :=
 (if 0≤(p3.length:Int)then some (IntKind.u32.wrap ((IntKind.u32.wrap ((1:Int)*2 ^ (min (p3.length:Int).toNat IntKind.u32.bits))) - (1:Int)))else none)
theorem tA(β2 β5 β6 β7 β8:Bool){p1:List UInt8}{p2:Int}{p3:List (List UInt8)}{p4:Int}{p5:Int}{p6:List Int}{p7:List (Int×Tree×Tree)}{p8:List (List UInt8)}{p9:List Int}{p10:Int}{p11:Int}{p12:Int}{p13:Int}{res:Int}(h:kK p1 p2 p3 p4 p5 p6 p7 p8 p9 p10 p11 p12 p13=some res):
  Pure Tryd.prog 89 [.fad true [.st p1,.i64 p2,.p β2 (.slice .str) p3,.u32 p4,.u32 p5,.p β5 (.slice (.int .i64)) p6,.p β6 (.slice (.prod (.int .u8) Y1)) p7,.p β7 (.slice .str) p8,.p β8 (.slice (.int .u32)) p9,.i64 p10,.i64 p11,.i64 p12,.i64 p13] 0] (b8 (fR false [⟨(.int .u32),res⟩])):=by
 refine Pure.of_body bH Tryd.func89 (by kernel_rfl) rfl (nl rfl) (fun Bw w0=> ?_) rfl
 unfold kK at h
 refine G (GC 6 h (fun h=>aQ ?_))
 obtain rfl:=sI h
 exact aK [(.int .u32)] (by kernel_rfl)
def mL(rec_rq_either_v3:(List UInt8)→Int→Int→Int→Int→Int→Int→Int→(List (List UInt8))→(List Int)→(List (Int×Tree×Tree))→(List (List UInt8))→(List Int)→Option (Tree×Int×Int×Int×Int×Int))(d1:List UInt8)(d2 d3 d4 d5 d6 d7 d8:Int)(o1:List (List UInt8))(o2:List Int)(o3:List (Int×Tree×Tree))(o4:List (List UInt8))(o5:List Int):Option (Tree×Int×Int×Int×Int×Int) :=
 ((aN (40:Int) d1 d2 d3 d4 d5 d6 d7 d8 o1 o2 o3 o4 o5).bind fun(r86,r87,r88,r89) =>
 (if r86=true then(if(decide ((IntKind.i64.wrap (d6+(1:Int))) > (16:Int)))=true then((cZ (25:Int) d2 d1 r87 d3 d4 d5 (IntKind.i64.wrap (d6+(1:Int))) r88 r89 o1 o2 o3 o4 o5).bind fun(r92,r93) =>
 some ((Tree.node (0:Int) (0:Int) ([]:List Tree)),r87,d5,(IntKind.i64.wrap (d6+(1:Int))),r92,r93))
 else((rec_rq_either_v3 d1 r87 d3 d4 d5 (IntKind.i64.wrap (d6+(1:Int))) r88 r89 o1 o2 o3 o4 o5).bind fun(r100,r101,r102,r103,r104,r105) =>
 ((eT (41:Int) d1 r101 d3 d4 r102 r103 r104 r105 o1 o2 o3 o4 o5).bind fun(r109,r110,r111) =>
 some ((Tree.node r100.op r100.set r100.kids),r109,r102,(IntKind.i64.wrap (r103 - (1:Int))),r110,r111))))
 else(if(decide ((IntKind.i64.wrap (d5+(1:Int))) > (200:Int)))=true then((cZ (26:Int) d2 d1 r87 d3 d4 (IntKind.i64.wrap (d5+(1:Int))) d6 r88 r89 o1 o2 o3 o4 o5).bind fun(r114,r115) =>
 some ((Tree.node (0:Int) (0:Int) ([]:List Tree)),r87,(IntKind.i64.wrap (d5+(1:Int))),d6,r114,r115))
 else((aN (46:Int) d1 r87 d3 d4 (IntKind.i64.wrap (d5+(1:Int))) d6 r88 r89 o1 o2 o3 o4 o5).bind fun(r120,r121,r122,r123) =>
 (if r120=true then((kK d1 r121 o1 d3 d4 o2 o3 o4 o5 (IntKind.i64.wrap (d5+(1:Int))) d6 r122 r123).bind fun r125 =>
 some ((Tree.node (1:Int) r125 ([]:List Tree)),r121,(IntKind.i64.wrap (d5+(1:Int))),d6,r122,r123))
 else((aN (91:Int) d1 r121 d3 d4 (IntKind.i64.wrap (d5+(1:Int))) d6 r122 r123 o1 o2 o3 o4 o5).bind fun(r130,r131,r132,r133) =>
 (if r130=true then((aN (94:Int) d1 r131 d3 d4 (IntKind.i64.wrap (d5+(1:Int))) d6 r132 r133 o1 o2 o3 o4 o5).bind fun(r138,r139,r140,r141) =>
 ((gB (93:Int) d1 r139 d3 d4 (IntKind.i64.wrap (d5+(1:Int))) d6 r140 r141 o1 o2 o3 o4 o5).bind fun(r146,r147,r148,r149) =>
 (((if r138=true then((kK d1 r147 o1 d3 d4 o2 o3 o4 o5 (IntKind.i64.wrap (d5+(1:Int))) d6 r148 r149).bind fun r153 =>
 some ((aJ .andNot .u32 r153 r146)))
 else some (r146))).bind fun v7=>some ((Tree.node (1:Int) v7 ([]:List Tree)),r147,(IntKind.i64.wrap (d5+(1:Int))),d6,r148,r149))))
 else((gM d1 r131 d3 d4 (IntKind.i64.wrap (d5+(1:Int))) d6 r132 r133 o1 o2 o3 o4 o5).bind fun(r158,r159,r160,r161) =>
 some ((Tree.node (1:Int) r158 ([]:List Tree)),r159,(IntKind.i64.wrap (d5+(1:Int))),d6,r160,r161)))))))))
theorem M6(rec_rq_either_v3:(List UInt8)→Int→Int→Int→Int→Int→Int→Int→(List (List UInt8))→(List Int)→(List (Int×Tree×Tree))→(List (List UInt8))→(List Int)→Option (Tree×Int×Int×Int×Int×Int))(hrec_rq_either_v3:∀ {p1:List UInt8} {p2:Int} {p3:Int} {p4:Int} {p5:Int} {p6:Int} {p7:Int} {p8:Int} {o1:List (List UInt8)} {o2:List Int} {o3:List (Int×Tree×Tree)} {o4:List (List UInt8)} {o5:List Int} {res:Tree×Int×Int×Int×Int×Int},rec_rq_either_v3 p1 p2 p3 p4 p5 p6 p7 p8 o1 o2 o3 o4 o5=some res→Owns Tryd.prog 70 [.adr 0 0 13 0] (bS p1 p2 p3 p4 p5 p6 p7 p8 o1 o2 o3 o4 o5) (.agg [.u8 res.1.op,.u32 res.1.set,.p false (.slice (.tree .u8 .u32)) res.1.kids]) (bS p1 res.2.1 p3 p4 res.2.2.1 res.2.2.2.1 res.2.2.2.2.1 res.2.2.2.2.2 o1 o2 o3 o4 o5)){d1:List UInt8}{d2:Int}{d3:Int}{d4:Int}{d5:Int}{d6:Int}{d7:Int}{d8:Int}{o1:List (List UInt8)}{o2:List Int}{o3:List (Int×Tree×Tree)}{o4:List (List UInt8)}{o5:List Int}{res:Tree×Int×Int×Int×Int×Int}(h:mL rec_rq_either_v3 d1 d2 d3 d4 d5 d6 d7 d8 o1 o2 o3 o4 o5=some res):
  Owns Tryd.prog 86 [.adr 0 0 13 0] (bS d1 d2 d3 d4 d5 d6 d7 d8 o1 o2 o3 o4 o5) (.agg [.u8 res.1.op,.u32 res.1.set,.p false (.slice (.tree .u8 .u32)) res.1.kids]) (bS d1 res.2.1 d3 d4 res.2.2.1 res.2.2.2.1 res.2.2.2.2.1 res.2.2.2.2.2 o1 o2 o3 o4 o5):=by
 refine Owns.of_body bH Tryd.func86 (by kernel_rfl) rfl (nl rfl) (fun Bw w0=> ?_)
 unfold mL at h
 refine G (G (aD ?_))
 obtain⟨⟨r86,r87,r88,r89⟩,q28,h⟩:=aC h
 refine GO 1 [0,1,2,3,4,5] (cU q28) (aS h (fun hb8 h=> ?_) (fun hb8 h=> ?_))
 ·refine G (aD (G (aS h (fun hb9 h=> ?_) (fun hb9 h=> ?_))))
  ·obtain⟨⟨r92,r93⟩,q30,h⟩:=aC h
   refine GO 2 [0,1,2,3,4,5] (dN q30) (G (aQ (aG (aG ?_))))
   obtain rfl:=sI h
   exact aE [some (.tree .u8 .u32)] [] [0,1,2,3,4,5,6] [(2,.adr 6 0 3 0)] (aB6 d1 r87 d3 d4 d5 (IntKind.i64.wrap (d6+(1:Int))) r92 r93 o1 o2 o3 o4 o5 (0:Int) (0:Int)) 7 6 (by kernel_rfl) (by kernel_rfl) (by kernel_rfl)
  refine aB (aA ?_)
  obtain⟨⟨r100,r101,r102,r103,r104,r105⟩,q32,h⟩:=aC h
  refine GO 1 [0,1,2,3,4,5] (hrec_rq_either_v3 q32) ?_
  obtain⟨⟨r109,r110,r111⟩,q34,h⟩:=aC h
  refine GO 1 [0,1,2,3,4,5] (iH q34) (G (G (aQ (aG ?_))))
  obtain rfl:=sI h
  exact aE [some (.tree .u8 .u32)] [] [0,1,2,3,4,5,6] [(2,.adr 6 0 3 0)] (aEy d1 r109 d3 d4 r102 (IntKind.i64.wrap (r103 - (1:Int))) r110 r111 o1 o2 o3 o4 o5 r100.op r100.set r100.kids) 7 6 (by kernel_rfl) (by kernel_rfl) (by kernel_rfl)
 refine aB (aA (G (aD (G (aS h (fun hb10 h=> ?_) (fun hb10 h=> ?_))))))
 ·obtain⟨⟨r114,r115⟩,q36,h⟩:=aC h
  refine GO 2 [0,1,2,3,4,5] (dN q36) (G (aQ (aG ?_)))
  obtain rfl:=sI h
  exact aE [some (.tree .u8 .u32)] [] [0,1,2,3,4,5,6] [(2,.adr 6 0 3 0)] (aB6 d1 r87 d3 d4 (IntKind.i64.wrap (d5+(1:Int))) d6 r114 r115 o1 o2 o3 o4 o5 (0:Int) (0:Int)) 7 6 (by kernel_rfl) (by kernel_rfl) (by kernel_rfl)
 refine aB (aA (aD ?_))
 obtain⟨⟨r120,r121,r122,r123⟩,q38,h⟩:=aC h
 refine GO 1 [0,1,2,3,4,5] (cU q38) (aS h (fun hb11 h=> ?_) (fun hb11 h=> ?_))
 ·obtain⟨r125,q40,h⟩:=aC h
  refine GP 1 (tA true true true true true q40) (aQ (aG ?_))
  obtain rfl:=sI h
  exact aE [some (.tree .u8 .u32)] [] [0,1,2,3,4,5,6] [(2,.adr 6 0 3 0)] (aB6 d1 r121 d3 d4 (IntKind.i64.wrap (d5+(1:Int))) d6 r122 r123 o1 o2 o3 o4 o5 (1:Int) r125) 7 6 (by kernel_rfl) (by kernel_rfl) (by kernel_rfl)
 refine aB (aA (aD ?_))
 obtain⟨⟨r130,r131,r132,r133⟩,q42,h⟩:=aC h
 refine GO 1 [0,1,2,3,4,5] (cU q42) (aS h (fun hb12 h=> ?_) (fun hb12 h=> ?_))
 ·obtain⟨⟨r138,r139,r140,r141⟩,q44,h⟩:=aC h
  refine GO 1 [0,1,2,3,4,5] (cU q44) ?_
  obtain⟨⟨r146,r147,r148,r149⟩,q46,h⟩:=aC h
  refine GO 1 [0,1,2,3,4,5] (l7 q46) (aD (G (cQ h (fun v7=>aL [(2,.adr 6 0 3 0),(6,.u32 v7)] (aB6 d1 r147 d3 d4 (IntKind.i64.wrap (d5+(1:Int))) d6 r148 r149 o1 o2 o3 o4 o5 (0:Int) (0:Int)) 7 6) (fun v7 h=> ?_) (fun v7 h=> ?_))))
  ·refine aS h (fun hb14 h=> ?_) (fun hb14 h=> ?_)
   ·obtain⟨r153,q50,h⟩:=aC h
    refine GPe 1 (tA true true true true true q50) ?_
    exact eN h (gg [] [0,1,2,3,4,5,6])
   refine aB ?_
   exact eN h (gg [] [0,1,2,3,4,5,6])
  refine aA (G (aQ (aG ?_)))
  obtain rfl:=sI h
  exact aE [some (.tree .u8 .u32)] [] [0,1,2,3,4,5,6] [(2,.adr 6 0 3 0)] (aB6 d1 r147 d3 d4 (IntKind.i64.wrap (d5+(1:Int))) d6 r148 r149 o1 o2 o3 o4 o5 (1:Int) v7) 7 6 (by kernel_rfl) (by kernel_rfl) (by kernel_rfl)
 refine aB (aA ?_)
 obtain⟨⟨r158,r159,r160,r161⟩,q52,h⟩:=aC h
 refine GO 1 [0,1,2,3,4,5] (sG q52) (G (aQ ?_))
 obtain rfl:=sI h
 exact aE [some (.tree .u8 .u32)] [] [0,1,2,3,4,5,6] [(2,.adr 6 0 3 0)] (aB6 d1 r159 d3 d4 (IntKind.i64.wrap (d5+(1:Int))) d6 r160 r161 o1 o2 o3 o4 o5 (1:Int) r158) 7 6 (by kernel_rfl) (by kernel_rfl) (by kernel_rfl)
def bV(p1:List UInt8)(p3 p4:Int)(o1:List (List UInt8))(o2:List Int)(o3:List (Int×Tree×Tree))(o4:List (List UInt8))(o5:List Int)(rec_rq_either_v3:(List UInt8)→Int→Int→Int→Int→Int→Int→Int→(List (List UInt8))→(List Int)→(List (Int×Tree×Tree))→(List (List UInt8))→(List Int)→Option (Tree×Int×Int×Int×Int×Int)):(Int×Int×Int×Int×Int×List Tree)→Option ((Int×Int×Int×Int×Int×List Tree)⊕((List Tree)×Int×Int×Int×Int×Int)):=fun(p39,p40,p41,p42,p43,l5) =>
 ((gC p1 p39 p3 p4 p40 p41 p42 p43 o1 o2 o3 o4 o5).bind fun(r327,r328,r329,r330) =>
 (((if(r329 != (0:Int))=true then some (true)
 else((iD r327).bind fun r333 =>
 (if(!r333)=true then(if(r327 != (40:Int))=true then(if(r327 != (91:Int))=true then some ((r327 != (46:Int)))
 else some (false))
 else some (false))
 else some (false))))).bind fun v21=>(if v21=true then some (Sum.inr (l5,r328,p40,p41,r329,r330))
 else((mL rec_rq_either_v3 p1 r328 p3 p4 p40 p41 r329 r330 o1 o2 o3 o4 o5).bind fun(r340,r341,r342,r343,r344,r345) =>
 ((aN (42:Int) p1 r341 p3 p4 r342 r343 r344 r345 o1 o2 o3 o4 o5).bind fun(r350,r351,r352,r353) =>
 (((if r350=true then some ((r351,r352,r353,(4:Int),(0:Int),([(Tree.node r340.op r340.set r340.kids)]:List Tree)))
 else((aN (43:Int) p1 r351 p3 p4 r342 r343 r352 r353 o1 o2 o3 o4 o5).bind fun(r374,r375,r376,r377) =>
 (if r374=true then some ((r375,r376,r377,(5:Int),(0:Int),([(Tree.node r340.op r340.set r340.kids)]:List Tree)))
 else((aN (63:Int) p1 r375 p3 p4 r342 r343 r376 r377 o1 o2 o3 o4 o5).bind fun(r382,r383,r384,r385) =>
 (if r382=true then some ((r383,r384,r385,(6:Int),(0:Int),([(Tree.node r340.op r340.set r340.kids)]:List Tree)))
 else some ((r383,r384,r385,r340.op,r340.set,r340.kids)))))))).bind fun(p44,p45,p46,e16,e17,e18)=>(if(l5.length+([(Tree.node e16 e17 e18)]:List Tree).length)*32≤140737488355328∧l5.length+([(Tree.node e16 e17 e18)]:List Tree).length≤9223372036854775807 then some (Sum.inl (p44,r342,r343,p45,p46,(l5++([(Tree.node e16 e17 e18)]:List Tree))))else none)))))))
def kE(rec_rq_either_v3:(List UInt8)→Int→Int→Int→Int→Int→Int→Int→(List (List UInt8))→(List Int)→(List (Int×Tree×Tree))→(List (List UInt8))→(List Int)→Option (Tree×Int×Int×Int×Int×Int))(p1:List UInt8)(p2 p3 p4 p5 p6 p7 p8:Int)(o1:List (List UInt8))(o2:List Int)(o3:List (Int×Tree×Tree))(o4:List (List UInt8))(o5:List Int):Option (Tree×Int×Int×Int×Int×Int) :=
 ((iter (bV p1 p3 p4 o1 o2 o3 o4 o5 rec_rq_either_v3) (p2,p5,p6,p7,p8,([]:List Tree))).bind fun(l6,v16,v17,v18,v19,v20)=>(if((l6.length:Int) == (0:Int))=true then some ((Tree.node (0:Int) (0:Int) ([]:List Tree)),v16,v17,v18,v19,v20)
 else(if((l6.length:Int) == (1:Int))=true then(if 0≤(0:Int)∧(0:Int)<(l6.length:Int)then(if(0:Int).toNat<l6.length then some ((Tree.node ((l6.getD ((0:Int).toNat) (Tree.node 0 0 [])).op) ((l6.getD ((0:Int).toNat) (Tree.node 0 0 [])).set) ((l6.getD ((0:Int).toNat) (Tree.node 0 0 [])).kids)),v16,v17,v18,v19,v20)else none)else none)
 else some ((Tree.node (2:Int) (0:Int) l6),v16,v17,v18,v19,v20))))
theorem wP(rec_rq_either_v3:(List UInt8)→Int→Int→Int→Int→Int→Int→Int→(List (List UInt8))→(List Int)→(List (Int×Tree×Tree))→(List (List UInt8))→(List Int)→Option (Tree×Int×Int×Int×Int×Int))(hrec_rq_either_v3:∀ {p1:List UInt8} {p2:Int} {p3:Int} {p4:Int} {p5:Int} {p6:Int} {p7:Int} {p8:Int} {o1:List (List UInt8)} {o2:List Int} {o3:List (Int×Tree×Tree)} {o4:List (List UInt8)} {o5:List Int} {res:Tree×Int×Int×Int×Int×Int},rec_rq_either_v3 p1 p2 p3 p4 p5 p6 p7 p8 o1 o2 o3 o4 o5=some res→Owns Tryd.prog 70 [.adr 0 0 13 0] (bS p1 p2 p3 p4 p5 p6 p7 p8 o1 o2 o3 o4 o5) (.agg [.u8 res.1.op,.u32 res.1.set,.p false (.slice (.tree .u8 .u32)) res.1.kids]) (bS p1 res.2.1 p3 p4 res.2.2.1 res.2.2.2.1 res.2.2.2.2.1 res.2.2.2.2.2 o1 o2 o3 o4 o5)){p1:List UInt8}{p2:Int}{p3:Int}{p4:Int}{p5:Int}{p6:Int}{p7:Int}{p8:Int}{o1:List (List UInt8)}{o2:List Int}{o3:List (Int×Tree×Tree)}{o4:List (List UInt8)}{o5:List Int}{res:Tree×Int×Int×Int×Int×Int}(h:kE rec_rq_either_v3 p1 p2 p3 p4 p5 p6 p7 p8 o1 o2 o3 o4 o5=some res):
  Owns Tryd.prog 81 [.adr 0 0 13 0] (bS p1 p2 p3 p4 p5 p6 p7 p8 o1 o2 o3 o4 o5) (.agg [.u8 res.1.op,.u32 res.1.set,.p false (.slice (.tree .u8 .u32)) res.1.kids]) (bS p1 res.2.1 p3 p4 res.2.2.1 res.2.2.2.1 res.2.2.2.2.1 res.2.2.2.2.2 o1 o2 o3 o4 o5):=by
 refine Owns.of_body bH Tryd.func81 (by kernel_rfl) rfl (nl rfl) (fun Bw w0=> ?_)
 unfold kE at h
 refine G (G (aD (aF (iK h (fun(p39,p40,p41,p42,p43,l5)=>aL [(0,.adr 0 0 13 0),(2,.adr 6 0 3 0),(3,.sl 7)] (aGe p1 p39 p3 p4 p40 p41 p42 p43 o1 o2 o3 o4 o5 (0:Int) (0:Int) l5) 8 6) 0 (fun(l6,v16,v17,v18,v19,v20)=>aL [(2,.adr 6 0 3 0),(3,.sl 7)] (aGe p1 v16 p3 p4 v17 v18 v19 v20 o1 o2 o3 o4 o5 (0:Int) (0:Int) l6) 8 6) (gg [.nilS 3 22 72 (.tree .u8 .u32)] [0,1,2,3,4,5,6,22]) (fun y o h=> ?_) (fun r387 h=> ?_)))))
 ·obtain⟨p39,p40,p41,p42,p43,l5⟩:=y
  unfold bV at h
  refine aF ?_
  obtain⟨⟨r327,r328,r329,r330⟩,q87,h⟩:=aC h
  refine GO 1 [0,1,2,3,4,5] (jY q87) (aD (aD (cQ h (fun v21=>aL [(0,.adr 0 0 13 0),(2,.adr 6 0 3 0),(3,.sl 7),(29,.bo v21)] (aGe p1 r328 p3 p4 p40 p41 r329 r330 o1 o2 o3 o4 o5 (0:Int) (0:Int) l5) 8 6) (fun v21 h=> ?_) (fun v21 h=> ?_))))
  ·rcases bC h with⟨hb106,h⟩ | ⟨hb106,h⟩
   ·refine dX ⟨[(5,true),(21,true)],[]⟩ [(6,9,oc hb106),(12,13,oc hb106),(16,17,oc hb106),(20,21,oc hb106)] ?_
    exact eN h (gg [] [0,1,2,3,4,5,6,7])
   obtain⟨r333,q90,h⟩:=aC h
   rcases bC h with⟨hb107,h⟩ | ⟨hb107,h⟩
   ·rcases bC h with⟨hb108,h⟩ | ⟨hb108,h⟩
    ·rcases bC h with⟨hb109,h⟩ | ⟨hb109,h⟩
     ·have u_1:=(hJ q90)
      refine dX ⟨[(5,false),(9,true),(12,true),(13,true),(16,true),(17,true),(20,true),(21,false)],[(7,(oP u_1))]⟩ [(6,6,an hb106),(7,7,oc (And.intro hb106 u_1)),(8,9,an hb106),(10,11,an hb107),(12,12,oc (And.intro hb106 hb107)),(13,13,an hb106),(14,15,an hb108),(16,16,oc (And.intro hb106 hb108)),(17,17,an hb106),(18,19,an hb109),(20,20,oc (And.intro hb106 hb109)),(21,21,oc hb106)] ?_
      exact eN h (gg [] [0,1,2,3,4,5,6,7])
     have u_1:=(hJ q90)
     refine dX ⟨[(5,false),(9,true),(12,true),(13,true),(16,true),(17,false),(20,false),(21,false)],[(7,(oP u_1))]⟩ [(6,6,an hb106),(7,7,oc (And.intro hb106 u_1)),(8,9,an hb106),(10,11,an hb107),(12,12,oc (And.intro hb106 hb107)),(13,13,an hb106),(14,15,an hb108),(16,16,oc (And.intro hb106 hb108)),(17,17,an hb106),(18,19,oc hb109),(20,20,oc (And.intro hb106 hb109)),(21,21,oc hb106)] ?_
     exact eN h (gg [] [0,1,2,3,4,5,6,7])
    have u_1:=(hJ q90)
    refine dX ⟨[(5,false),(9,true),(12,true),(13,false),(16,false),(21,false)],[(7,(oP u_1))]⟩ [(6,6,an hb106),(7,7,oc (And.intro hb106 u_1)),(8,9,an hb106),(10,11,an hb107),(12,12,oc (And.intro hb106 hb107)),(13,13,an hb106),(14,15,oc hb108),(16,16,oc (And.intro hb106 hb108)),(17,17,an hb106),(20,20,an hb106),(21,21,oc hb106)] ?_
    exact eN h (gg [] [0,1,2,3,4,5,6,7])
   have u_1:=(hJ q90)
   refine dX ⟨[(5,false),(9,false),(12,false),(21,false)],[(7,(oP u_1))]⟩ [(6,6,an hb106),(7,7,oc (And.intro hb106 u_1)),(8,9,an hb106),(10,11,oc hb107),(12,12,oc (And.intro hb106 hb107)),(13,13,an hb106),(16,17,an hb106),(20,20,an hb106),(21,21,oc hb106)] ?_
   exact eN h (gg [] [0,1,2,3,4,5,6,7])
  refine aA (aS h (fun hb110 h=> ?_) (fun hb110 h=> ?_))
  ·refine aM (bM (zE rfl ?_))
   exact eX h (gg [] [0,1,2,3,4,5,6,7])
  refine aB (aA ?_)
  obtain⟨⟨r340,r341,r342,r343,r344,r345⟩,q92,h⟩:=aC h
  refine GO 1 [0,1,2,3,4,5] (M6 rec_rq_either_v3 hrec_rq_either_v3 q92) (aD ?_)
  obtain⟨⟨r350,r351,r352,r353⟩,q94,h⟩:=aC h
  refine GO 1 [0,1,2,3,4,5] (cU q94) (cQ h (fun(p44,p45,p46,e16,e17,e18)=>aL [(0,.adr 0 0 13 0),(2,.adr 6 0 3 0),(3,.sl 7),(5,.adr 8 0 3 0)] (aKO p1 p44 p3 p4 r342 r343 p45 p46 o1 o2 o3 o4 o5 (0:Int) (0:Int) l5 e16 e17 e18) 9 6) (fun r386 h=> ?_) (fun r386 h=> ?_))
  ·refine aS h (fun hb114 h=> ?_) (fun hb114 h=> ?_)
   ·refine Ge ?_
    exact eN h (gg [.frzC 24 2] [0,1,2,3,4,5,6,7,24])
   obtain⟨⟨r374,r375,r376,r377⟩,q100,h⟩:=aC h
   refine GO 1 [0,1,2,3,4,5] (cU q100) (aS h (fun hb115 h=> ?_) (fun hb115 h=> ?_))
   ·refine Ge ?_
    exact eN h (gg [.frzC 24 2] [0,1,2,3,4,5,6,7,24])
   obtain⟨⟨r382,r383,r384,r385⟩,q102,h⟩:=aC h
   refine GO 1 [0,1,2,3,4,5] (cU q102) (aS h (fun hb116 h=> ?_) (fun hb116 h=> ?_))
   ·refine Ge ?_
    exact eN h (gg [.frzC 24 2] [0,1,2,3,4,5,6,7,24])
   refine aB ?_
   exact eN h (gg [] [0,1,2,3,4,5,6,7,24])
  obtain⟨p44,p45,p46,e16,e17,e18⟩:=r386
  refine aA (GCe 3 h (fun h=>aI ?_))
  exact eB h (gg [] [0,1,2,3,4,5,6,33])
 obtain⟨l6,v16,v17,v18,v19,v20⟩:=r387
 refine aO (aA (aD (G (aS h (fun hb117 h=> ?_) (fun hb117 h=> ?_)))))
 ·refine G (aQ (aG ?_))
  obtain rfl:=sI h
  exact aE [some (.tree .u8 .u32)] [] [0,1,2,3,4,5,6] [(2,.adr 6 0 3 0)] (aB6 p1 v16 p3 p4 v17 v18 v19 v20 o1 o2 o3 o4 o5 (0:Int) (0:Int)) 7 6 (by kernel_rfl) (by kernel_rfl) (by kernel_rfl)
 refine aB (aA (aD (G (aS h (fun hb118 h=> ?_) (fun hb118 h=> ?_)))))
 ·obtain⟨c19,c20,h⟩:=g2 h
  refine GN a0 [(1,1,oc c19),(2,2,oc c20)] (aQ (aG ?_))
  obtain rfl:=sI h
  exact aE [some (.tree .u8 .u32)] [] [0,1,2,3,4,5,6] [(2,.adr 6 0 3 0)] (aEy p1 v16 p3 p4 v17 v18 v19 v20 o1 o2 o3 o4 o5 ((l6.getD ((0:Int).toNat) (Tree.node 0 0 [])).op) ((l6.getD ((0:Int).toNat) (Tree.node 0 0 [])).set) ((l6.getD ((0:Int).toNat) (Tree.node 0 0 [])).kids)) 7 6 (by kernel_rfl) (by kernel_rfl) (by kernel_rfl)
 refine aB (aA (G (aQ ?_)))
 obtain rfl:=sI h
 exact aE [some (.tree .u8 .u32)] [] [0,1,2,3,4,5,6,7] [(2,.adr 6 0 3 0)] (aHW p1 v16 p3 p4 v17 v18 v19 v20 o1 o2 o3 o4 o5 (2:Int) (0:Int) l6) 8 6 (by kernel_rfl) (by kernel_rfl) (by kernel_rfl)
def cV(p1:List UInt8)(p3 p4:Int)(o1:List (List UInt8))(o2:List Int)(o3:List (Int×Tree×Tree))(o4:List (List UInt8))(o5:List Int)(rec_rq_either_v3:(List UInt8)→Int→Int→Int→Int→Int→Int→Int→(List (List UInt8))→(List Int)→(List (Int×Tree×Tree))→(List (List UInt8))→(List Int)→Option (Tree×Int×Int×Int×Int×Int)):(Int×Int×Int×Int×Int×List Tree)→Option ((Int×Int×Int×Int×Int×List Tree)⊕((List Tree)×Int×Int×Int×Int×Int)):=fun(p34,p35,p36,p37,p38,l8) =>
 ((aN (124:Int) p1 p34 p3 p4 p35 p36 p37 p38 o1 o2 o3 o4 o5).bind fun(r205,r206,r207,r208) =>
 (if r205=true then((kE rec_rq_either_v3 p1 r206 p3 p4 p35 p36 r207 r208 o1 o2 o3 o4 o5).bind fun(r215,r216,r217,r218,r219,r220) =>
 (if(l8.length+([(Tree.node r215.op r215.set r215.kids)]:List Tree).length)*32≤140737488355328∧l8.length+([(Tree.node r215.op r215.set r215.kids)]:List Tree).length≤9223372036854775807 then some (Sum.inl (r216,r217,r218,r219,r220,(l8++([(Tree.node r215.op r215.set r215.kids)]:List Tree))))else none))
 else some (Sum.inr (l8,r206,p35,p36,r207,r208))))
def fP(rec_rq_either_v3:(List UInt8)→Int→Int→Int→Int→Int→Int→Int→(List (List UInt8))→(List Int)→(List (Int×Tree×Tree))→(List (List UInt8))→(List Int)→Option (Tree×Int×Int×Int×Int×Int))(p1:List UInt8)(p2 p3 p4 p5 p6 p7 p8:Int)(o1:List (List UInt8))(o2:List Int)(o3:List (Int×Tree×Tree))(o4:List (List UInt8))(o5:List Int):Option (Tree×Int×Int×Int×Int×Int) :=
 ((kE rec_rq_either_v3 p1 p2 p3 p4 p5 p6 p7 p8 o1 o2 o3 o4 o5).bind fun(r155,r156,r157,r158,r159,r160) =>
 ((iter (cV p1 p3 p4 o1 o2 o3 o4 o5 rec_rq_either_v3) (r156,r157,r158,r159,r160,([(Tree.node r155.op r155.set r155.kids)]:List Tree))).bind fun(l9,v21,v22,v23,v24,v25)=>(if((l9.length:Int) == (1:Int))=true then(if 0≤(0:Int)∧(0:Int)<(l9.length:Int)then(if(0:Int).toNat<l9.length then some ((Tree.node ((l9.getD ((0:Int).toNat) (Tree.node 0 0 [])).op) ((l9.getD ((0:Int).toNat) (Tree.node 0 0 [])).set) ((l9.getD ((0:Int).toNat) (Tree.node 0 0 [])).kids)),v21,v22,v23,v24,v25)else none)else none)
 else some ((Tree.node (3:Int) (0:Int) l9),v21,v22,v23,v24,v25))))
def gT:Nat→(List UInt8)→Int→Int→Int→Int→Int→Int→Int→(List (List UInt8))→(List Int)→(List (Int×Tree×Tree))→(List (List UInt8))→(List Int)→Option (Tree×Int×Int×Int×Int×Int)
 | 0=>fun _ _ _ _ _ _ _ _ _ _ _ _ _=>none
 | n+1=>fP (gT n)
theorem w7(rec_rq_either_v3:(List UInt8)→Int→Int→Int→Int→Int→Int→Int→(List (List UInt8))→(List Int)→(List (Int×Tree×Tree))→(List (List UInt8))→(List Int)→Option (Tree×Int×Int×Int×Int×Int))(hrec_rq_either_v3:∀ {p1:List UInt8} {p2:Int} {p3:Int} {p4:Int} {p5:Int} {p6:Int} {p7:Int} {p8:Int} {o1:List (List UInt8)} {o2:List Int} {o3:List (Int×Tree×Tree)} {o4:List (List UInt8)} {o5:List Int} {res:Tree×Int×Int×Int×Int×Int},rec_rq_either_v3 p1 p2 p3 p4 p5 p6 p7 p8 o1 o2 o3 o4 o5=some res→Owns Tryd.prog 70 [.adr 0 0 13 0] (bS p1 p2 p3 p4 p5 p6 p7 p8 o1 o2 o3 o4 o5) (.agg [.u8 res.1.op,.u32 res.1.set,.p false (.slice (.tree .u8 .u32)) res.1.kids]) (bS p1 res.2.1 p3 p4 res.2.2.1 res.2.2.2.1 res.2.2.2.2.1 res.2.2.2.2.2 o1 o2 o3 o4 o5)){p1:List UInt8}{p2:Int}{p3:Int}{p4:Int}{p5:Int}{p6:Int}{p7:Int}{p8:Int}{o1:List (List UInt8)}{o2:List Int}{o3:List (Int×Tree×Tree)}{o4:List (List UInt8)}{o5:List Int}{res:Tree×Int×Int×Int×Int×Int}(h:fP rec_rq_either_v3 p1 p2 p3 p4 p5 p6 p7 p8 o1 o2 o3 o4 o5=some res):
  Owns Tryd.prog 70 [.adr 0 0 13 0] (bS p1 p2 p3 p4 p5 p6 p7 p8 o1 o2 o3 o4 o5) (.agg [.u8 res.1.op,.u32 res.1.set,.p false (.slice (.tree .u8 .u32)) res.1.kids]) (bS p1 res.2.1 p3 p4 res.2.2.1 res.2.2.2.1 res.2.2.2.2.1 res.2.2.2.2.2 o1 o2 o3 o4 o5):=by
 refine Owns.of_body bH Tryd.func70 (by kernel_rfl) rfl (nl rfl) (fun Bw w0=> ?_)
 unfold fP at h
 refine G ?_
 obtain⟨⟨r155,r156,r157,r158,r159,r160⟩,q30,h⟩:=aC h
 refine GO 1 [0,1,2,3,4,5] (wP rec_rq_either_v3 hrec_rq_either_v3 q30) (G (aD (aF (iK h (fun(p34,p35,p36,p37,p38,l8)=>aL [(0,.adr 0 0 13 0),(2,.adr 6 0 3 0),(4,.sl 7)] (aGe p1 p34 p3 p4 p35 p36 p37 p38 o1 o2 o3 o4 o5 (0:Int) (0:Int) l8) 8 6) 0 (fun(l9,v21,v22,v23,v24,v25)=>aL [(2,.adr 6 0 3 0),(4,.sl 7)] (aGe p1 v21 p3 p4 v22 v23 v24 v25 o1 o2 o3 o4 o5 (0:Int) (0:Int) l9) 8 6) (gg [] [0,1,2,3,4,5,6,54]) (fun y o h=> ?_) (fun r221 h=> ?_)))))
 ·obtain⟨p34,p35,p36,p37,p38,l8⟩:=y
  unfold cV at h
  refine aD ?_
  obtain⟨⟨r205,r206,r207,r208⟩,q40,h⟩:=aC h
  refine GO 1 [0,1,2,3,4,5] (cU q40) (aS h (fun hb11 h=> ?_) (fun hb11 h=> ?_))
  ·refine aB (aA (aF ?_))
   obtain⟨⟨r215,r216,r217,r218,r219,r220⟩,q42,h⟩:=aC h
   refine GO 1 [0,1,2,3,4,5] (wP rec_rq_either_v3 hrec_rq_either_v3 q42) (GCe 3 h (fun h=>aI ?_))
   exact eB h (gg [] [0,1,2,3,4,5,6,80])
  refine aM (bM ?_)
  exact eX h (gg [] [0,1,2,3,4,5,6,7])
 obtain⟨l9,v21,v22,v23,v24,v25⟩:=r221
 refine aO (aA (aD (G (aS h (fun hb12 h=> ?_) (fun hb12 h=> ?_)))))
 ·obtain⟨c29,c30,h⟩:=g2 h
  refine GN a0 [(1,1,oc c29),(2,2,oc c30)] (aQ (aG ?_))
  obtain rfl:=sI h
  exact aE [some (.tree .u8 .u32)] [] [0,1,2,3,4,5,6] [(2,.adr 6 0 3 0)] (aEy p1 v21 p3 p4 v22 v23 v24 v25 o1 o2 o3 o4 o5 ((l9.getD ((0:Int).toNat) (Tree.node 0 0 [])).op) ((l9.getD ((0:Int).toNat) (Tree.node 0 0 [])).set) ((l9.getD ((0:Int).toNat) (Tree.node 0 0 [])).kids)) 7 6 (by kernel_rfl) (by kernel_rfl) (by kernel_rfl)
 refine aB (aA (G (aQ ?_)))
 obtain rfl:=sI h
 exact aE [some (.tree .u8 .u32)] [] [0,1,2,3,4,5,6,7] [(2,.adr 6 0 3 0)] (aHW p1 v21 p3 p4 v22 v23 v24 v25 o1 o2 o3 o4 o5 (3:Int) (0:Int) l9) 8 6 (by kernel_rfl) (by kernel_rfl) (by kernel_rfl)
theorem mT:∀(n:Nat) {p1:List UInt8} {p2:Int} {p3:Int} {p4:Int} {p5:Int} {p6:Int} {p7:Int} {p8:Int} {o1:List (List UInt8)} {o2:List Int} {o3:List (Int×Tree×Tree)} {o4:List (List UInt8)} {o5:List Int} {res:Tree×Int×Int×Int×Int×Int},gT n p1 p2 p3 p4 p5 p6 p7 p8 o1 o2 o3 o4 o5=some res→Owns Tryd.prog 70 [.adr 0 0 13 0] (bS p1 p2 p3 p4 p5 p6 p7 p8 o1 o2 o3 o4 o5) (.agg [.u8 res.1.op,.u32 res.1.set,.p false (.slice (.tree .u8 .u32)) res.1.kids]) (bS p1 res.2.1 p3 p4 res.2.2.1 res.2.2.2.1 res.2.2.2.2.1 res.2.2.2.2.2 o1 o2 o3 o4 o5)
 | 0,_,_,_,_,_,_,_,_,_,_,_,_,_,_,h=>by cases h
 | n+1,p1,p2,p3,p4,p5,p6,p7,p8,o1,o2,o3,o4,o5,res,h=>w7 (gT n) (mT n)  h
def iY(does1 at1:Int)(p1:List UInt8)(p2 p3 p4 p5 p6 p7 p8:Int)(o1:List (List UInt8))(o2:List Int)(o3:List (Int×Tree×Tree))(o4:List (List UInt8))(o5:List Int):Option (Int×(List (Int×Tree×Tree))×Int×Int×Int×Int) :=
 (((if((o3.length:Int) == (24:Int))=true then((cZ (24:Int) at1 p1 p2 p3 p4 p5 p6 p7 p8 o1 o2 o3 o4 o5).bind fun(r52,r53) =>
 some ((r52,r53)))
 else some ((p7,p8)))).bind fun(p11,p12)=>((gT 1000 p1 p2 p3 p4 p5 p6 p11 p12 o1 o2 o3 o4 o5).bind fun(r61,r62,r63,r64,r65,r66) =>
 ((eT (47:Int) p1 r62 p3 p4 r63 r64 r65 r66 o1 o2 o3 o4 o5).bind fun(r70,r71,r72) =>
 ((gT 1000 p1 r70 p3 p4 r63 r64 r71 r72 o1 o2 o3 o4 o5).bind fun(r79,r80,r81,r82,r83,r84) =>
 ((eT (59:Int) p1 r80 p3 p4 r81 r82 r83 r84 o1 o2 o3 o4 o5).bind fun(r88,r89,r90) =>
 (((if(r89 == (0:Int))=true then(if(o3.length+([(does1,((Tree.node r61.op r61.set r61.kids),(Tree.node r79.op r79.set r79.kids)))]:List (Int×Tree×Tree)).length)*72≤140737488355328∧o3.length+([(does1,((Tree.node r61.op r61.set r61.kids),(Tree.node r79.op r79.set r79.kids)))]:List (Int×Tree×Tree)).length≤9223372036854775807 then some ((o3++([(does1,((Tree.node r61.op r61.set r61.kids),(Tree.node r79.op r79.set r79.kids)))]:List (Int×Tree×Tree))))else none)
 else some (o3))).bind fun v8=>some (r88,v8,r81,r82,r89,r90)))))))
theorem pQ{does1:Int}{at1:Int}{p1:List UInt8}{p2:Int}{p3:Int}{p4:Int}{p5:Int}{p6:Int}{p7:Int}{p8:Int}{o1:List (List UInt8)}{o2:List Int}{o3:List (Int×Tree×Tree)}{o4:List (List UInt8)}{o5:List Int}{res:Int×(List (Int×Tree×Tree))×Int×Int×Int×Int}(h:iY does1 at1 p1 p2 p3 p4 p5 p6 p7 p8 o1 o2 o3 o4 o5=some res):
  Owns Tryd.prog 46 [.adr 0 0 13 0,.u8 does1,.i64 at1] (bS p1 p2 p3 p4 p5 p6 p7 p8 o1 o2 o3 o4 o5) (.tup []) (aE2 p1 res.1 p3 p4 res.2.2.1 res.2.2.2.1 res.2.2.2.2.1 res.2.2.2.2.2 o1 o2 o4 o5 res.2.1):=by
 refine Owns.of_body bH Tryd.func46 (by kernel_rfl) rfl (nl rfl) (fun Bw w0=> ?_)
 unfold iY at h
 refine aD (G (cQ h (fun(p11,p12)=>aL [(0,.adr 0 0 13 0),(1,.u8 does1)] (bS p1 p2 p3 p4 p5 p6 p11 p12 o1 o2 o3 o4 o5) 6 6) (fun r54 h=> ?_) (fun r54 h=> ?_)))
 ·refine aS h (fun hb6 h=> ?_) (fun hb6 h=> ?_)
  ·obtain⟨⟨r52,r53⟩,q16,h⟩:=aC h
   refine lR 2 [0,1,2,3,4,5] (dN q16) ?_
   exact eN h (gg [] [0,1,2,3,4,5])
  refine aB ?_
  exact eN h (gg [] [0,1,2,3,4,5])
 obtain⟨p11,p12⟩:=r54
 refine aA ?_
 obtain⟨⟨r61,r62,r63,r64,r65,r66⟩,q18,h⟩:=aC h
 refine GO 1 [0,1,2,3,4,5] (mT 1000 q18) ?_
 obtain⟨⟨r70,r71,r72⟩,q20,h⟩:=aC h
 refine GO 1 [0,1,2,3,4,5] (iH q20) ?_
 obtain⟨⟨r79,r80,r81,r82,r83,r84⟩,q22,h⟩:=aC h
 refine GO 1 [0,1,2,3,4,5] (mT 1000 q22) ?_
 obtain⟨⟨r88,r89,r90⟩,q24,h⟩:=aC h
 refine GO 1 [0,1,2,3,4,5] (iH q24) (G (cQ h (fun v8=>aL [] (aE2 p1 r88 p3 p4 r81 r82 r89 r90 o1 o2 o4 o5 v8) 7 6) (fun v8 h=> ?_) (fun v8 h=> ?_)))
 ·refine aS h (fun hb8 h=> ?_) (fun hb8 h=> ?_)
  ·obtain⟨c8,h⟩:=bA h
   refine vA a0 [(11,11,oc c8)] ?_
   exact eN h (gg [] [0,1,2,3,4,5,230])
  refine aB ?_
  exact eN h (gg [] [0,1,2,3,4,5,3])
 obtain rfl:=sI h
 exact(aE [] [] [0,1,2,3,4,5,6] [] (aE2 p1 r88 p3 p4 r81 r82 r89 r90 o1 o2 o4 o5 v8) 7 6 (by kernel_rfl) (by kernel_rfl) (by kernel_rfl)).normal
def dD(d1:List UInt8)(d3 d4 d5 d6:Int)(o3:List (Int×Tree×Tree)):(Int×(List (List UInt8))×(List Int)×(List (List UInt8))×(List Int)×Int×Int)→Option ((Int×(List (List UInt8))×(List Int)×(List (List UInt8))×(List Int)×Int×Int)⊕(Int×(List (List UInt8))×(List Int)×(List (List UInt8))×(List Int)×Int×Int)):=fun(d116,d117,d118,d119,d120,d121,d122) =>
 (((if(d121 == (0:Int))=true then((aN (59:Int) d1 d116 d3 d4 d5 d6 d121 d122 d117 d118 o3 d119 d120).bind fun(r765,r766,r767,r768) =>
 some ((r766,r767,r768,(!r765))))
 else some ((d116,d121,d122,false)))).bind fun(d123,d124,d125,v87)=>(if v87=true then((gN d1 d123 d3 d4 d5 d6 d124 d125 d117 d118 o3 d119 d120).bind fun(r775,r776,r777,r778,r779) =>
 (((if(r778 == (0:Int))=true then some (((d117.length:Int) == (24:Int)))
 else some (false))).bind fun v88=>(((if v88=true then((cZ (24:Int) r776 d1 r777 d3 d4 d5 d6 r778 r779 d117 d118 o3 d119 d120).bind fun(r786,r787) =>
 some ((r786,r787)))
 else some ((r778,r779)))).bind fun(d126,d127)=>(if(d126 == (0:Int))=true then(if 0≤(d117.length:Int)then((iF r775 (IntKind.u32.wrap ((1:Int)*2 ^ (min (d117.length:Int).toNat IntKind.u32.bits))) d1 r777 d3 d4 d5 d6 d126 d127 d117 d118 o3 d119 d120).bind fun(r791,r792) =>
 (if(d117.length+([r775]:List (List UInt8)).length)*16≤140737488355328∧d117.length+([r775]:List (List UInt8)).length≤9223372036854775807 then(if(d118.length+([(d117.length:Int)]:List Int).length)*8≤140737488355328∧d118.length+([(d117.length:Int)]:List Int).length≤9223372036854775807 then some (Sum.inl (r777,(d117++([r775]:List (List UInt8))),(d118++([(d117.length:Int)]:List Int)),r791,r792,d126,d127))else none)else none))else none)
 else some (Sum.inl (r777,d117,d118,d119,d120,d126,d127))))))
 else some (Sum.inr (d123,d117,d118,d119,d120,d124,d125))))
def l4(d1:List UInt8)(d2 d3 d4 d5 d6 d7 d8:Int)(o1:List (List UInt8))(o2:List Int)(o3:List (Int×Tree×Tree))(o4:List (List UInt8))(o5:List Int):Option (Int×(List (List UInt8))×Int×Int×(List Int)×(List (Int×Tree×Tree))×(List (List UInt8))×(List Int)×Int×Int×Int×Int) :=
 ((eC d1 d2 d3 d4 d5 d6 d7 d8 o1 o2 o3 o4 o5).bind fun(r459,r460,r461,r462,r463) =>
 (((if(r459 == ([99,108,97,115,115]:List UInt8))=true then((iter (dD d1 d3 d4 d5 d6 o3) (r461,o1,o2,o4,o5,r462,r463)).bind fun(v80,v81,v82,v83,v84,v85,v86)=>some ((v80,v81,d3,d4,v82,o3,v83,v84,d5,d6,v85,v86)))
 else(if(r459 == ([115,101,116]:List UInt8))=true then((gN d1 r461 d3 d4 d5 d6 r462 r463 o1 o2 o3 o4 o5).bind fun(r799,r800,r801,r802,r803) =>
 ((eT (61:Int) d1 r801 d3 d4 d5 d6 r802 r803 o1 o2 o3 o4 o5).bind fun(r807,r808,r809) =>
 ((gB (59:Int) d1 r807 d3 d4 d5 d6 r808 r809 o1 o2 o3 o4 o5).bind fun(r814,r815,r816,r817) =>
 (if(r816 == (0:Int))=true then((iF r799 r814 d1 r815 d3 d4 d5 d6 r816 r817 o1 o2 o3 o4 o5).bind fun(r820,r821) =>
 some ((r815,o1,d3,d4,o2,o3,r820,r821,d5,d6,r816,r817)))
 else some ((r815,o1,d3,d4,o2,o3,o4,o5,d5,d6,r816,r817))))))
 else(if(r459 == ([106,111,105,110]:List UInt8))=true then((gB (47:Int) d1 r461 d3 d4 d5 d6 r462 r463 o1 o2 o3 o4 o5).bind fun(r826,r827,r828,r829) =>
 ((gB (59:Int) d1 r827 (aJ .or .u32 d3 r826) d4 d5 d6 r828 r829 o1 o2 o3 o4 o5).bind fun(r834,r835,r836,r837) =>
 some ((r835,o1,(aJ .or .u32 d3 r826),(aJ .or .u32 d4 r834),o2,o3,o4,o5,d5,d6,r836,r837))))
 else(if(r459 == ([116,114,101,97,116]:List UInt8))=true then((gP d1 r461 d3 d4 d5 d6 r462 r463 o1 o2 o3 o4 o5).bind fun(r842,r843,r844,r845) =>
 ((eT (61:Int) d1 r843 d3 d4 d5 d6 r844 r845 o1 o2 o3 o4 o5).bind fun(r849,r850,r851) =>
 ((gP d1 r849 d3 d4 d5 d6 r850 r851 o1 o2 o3 o4 o5).bind fun(r856,r857,r858,r859) =>
 (((if(r858 == (0:Int))=true then(if 0≤r842∧r842<(o2.length:Int)then(if r842.toNat<o2.length then some ((o2.set r842.toNat r856))else none)else none)
 else some (o2))).bind fun d128=>((eT (59:Int) d1 r857 d3 d4 d5 d6 r858 r859 o1 d128 o3 o4 o5).bind fun(r863,r864,r865) =>
 some ((r863,o1,d3,d4,d128,o3,o4,o5,d5,d6,r864,r865)))))))
 else(if(r459 == ([107,101,101,112]:List UInt8))=true then((iY (0:Int) r460 d1 r461 d3 d4 d5 d6 r462 r463 o1 o2 o3 o4 o5).bind fun(r872,r873,r874,r875,r876,r877) =>
 some ((r872,o1,d3,d4,o2,r873,o4,o5,r874,r875,r876,r877)))
 else(if(r459 == ([109,97,121]:List UInt8))=true then((iY (1:Int) r460 d1 r461 d3 d4 d5 d6 r462 r463 o1 o2 o3 o4 o5).bind fun(r884,r885,r886,r887,r888,r889) =>
 some ((r884,o1,d3,d4,o2,r885,o4,o5,r886,r887,r888,r889)))
 else(if(r459 == ([109,117,115,116]:List UInt8))=true then((iY (2:Int) r460 d1 r461 d3 d4 d5 d6 r462 r463 o1 o2 o3 o4 o5).bind fun(r896,r897,r898,r899,r900,r901) =>
 some ((r896,o1,d3,d4,o2,r897,o4,o5,r898,r899,r900,r901)))
 else((cZ (21:Int) r460 d1 r461 d3 d4 d5 d6 r462 r463 o1 o2 o3 o4 o5).bind fun(r904,r905) =>
 some ((r461,o1,d3,d4,o2,o3,o4,o5,d5,d6,r904,r905))))))))))).bind fun(v64,v65,v66,v67,v68,v69,v70,v71,v72,v73,v74,v75)=>some (v64,v65,v66,v67,v68,v69,v70,v71,v72,v73,v74,v75)))
theorem P8{d1:List UInt8}{d2:Int}{d3:Int}{d4:Int}{d5:Int}{d6:Int}{d7:Int}{d8:Int}{o1:List (List UInt8)}{o2:List Int}{o3:List (Int×Tree×Tree)}{o4:List (List UInt8)}{o5:List Int}{res:Int×(List (List UInt8))×Int×Int×(List Int)×(List (Int×Tree×Tree))×(List (List UInt8))×(List Int)×Int×Int×Int×Int}(h:l4 d1 d2 d3 d4 d5 d6 d7 d8 o1 o2 o3 o4 o5=some res):
  Owns Tryd.prog 28 [.adr 0 0 13 0] (bS d1 d2 d3 d4 d5 d6 d7 d8 o1 o2 o3 o4 o5) (.tup []) (aFv d1 res.1 res.2.2.1 res.2.2.2.1 res.2.2.2.2.2.2.2.2.1 res.2.2.2.2.2.2.2.2.2.1 res.2.2.2.2.2.2.2.2.2.2.1 res.2.2.2.2.2.2.2.2.2.2.2 res.2.1 res.2.2.2.2.1 res.2.2.2.2.2.1 res.2.2.2.2.2.2.1 res.2.2.2.2.2.2.2.1):=by
 refine Owns.of_body bH Tryd.func28 (by kernel_rfl) rfl (nl rfl) (fun Bw w0=> ?_)
 unfold l4 at h
 obtain⟨⟨r459,r460,r461,r462,r463⟩,q126,h⟩:=aC h
 refine GO 1 [0,1,2,3,4,5] (mB q126) (G (aF (G (cQ h (fun(v64,v65,v66,v67,v68,v69,v70,v71,v72,v73,v74,v75)=>aL [] (aFv d1 v64 v66 v67 v72 v73 v74 v75 v65 v68 v69 v70 v71) 11 6) (fun r906 h=> ?_) (fun r906 h=> ?_)))))
 ·refine aS h (fun hb121 h=> ?_) (fun hb121 h=> ?_)
  ·refine aF (iK h (fun(d116,d117,d118,d119,d120,d121,d122)=>aL [(0,.adr 0 0 13 0)] (aFd d1 d116 d3 d4 d5 d6 d121 d122 o3 d117 d118 d119 d120) 10 6) 1 (fun(v80,v81,v82,v83,v84,v85,v86)=>aL [] (aFd d1 v80 d3 d4 d5 d6 v85 v86 o3 v81 v82 v83 v84) 10 6) (gg [] [0,1,2,3,4,5,1,2,4,5]) (fun y o h=> ?_) (fun r793 h=> ?_))
   ·obtain⟨d116,d117,d118,d119,d120,d121,d122⟩:=y
    unfold dD at h
    refine aD (aD (cQ h (fun(d123,d124,d125,v87)=>aL [(0,.adr 0 0 13 0),(34,.bo v87)] (aFd d1 d123 d3 d4 d5 d6 d124 d125 o3 d117 d118 d119 d120) 10 6) (fun r769 h=> ?_) (fun r769 h=> ?_)))
    ·rcases bC h with⟨hb144,h⟩ | ⟨hb144,h⟩
     ·obtain⟨⟨r765,r766,r767,r768⟩,q212,h⟩:=aC h
      have u_1:=(cU q212)
      refine dX ⟨[(5,true),(9,true)],[(7,(oO u_1 [0,6,7,3,8,9]))]⟩ [(6,6,an hb144),(7,7,oc (And.intro hb144 u_1)),(8,8,an hb144),(9,9,oc hb144)] ?_
      exact eN h (gg [] [0,1,2,3,4,5,6,7,8,9])
     refine dX ⟨[(5,false),(9,false)],[]⟩ [(6,9,oc hb144)] ?_
     exact eN h (gg [] [0,1,2,3,4,5,6,7,8,9])
    obtain⟨d123,d124,d125,v87⟩:=r769
    refine aA (aS h (fun hb145 h=> ?_) (fun hb145 h=> ?_))
    ·refine aB (aA (aF ?_))
     obtain⟨⟨r775,r776,r777,r778,r779⟩,q214,h⟩:=aC h
     refine GO 1 [0,6,7,3,8,9] (tG q214) (aD (aD (cQ h (fun v88=>aL [(0,.adr 0 0 13 0),(4,.st r775),(5,.i64 r776),(53,.bo v88)] (aFd d1 r777 d3 d4 d5 d6 r778 r779 o3 d117 d118 d119 d120) 10 6) (fun v88 h=> ?_) (fun v88 h=> ?_))))
     ·rcases bC h with⟨hb148,h⟩ | ⟨hb148,h⟩
      ·refine dX ⟨[(5,true),(13,true)],[]⟩ [(6,12,an hb148),(13,13,oc hb148)] ?_
       exact eN h (gg [] [0,1,2,3,4,5,6,7,8,9])
      refine dX ⟨[(5,false),(13,false)],[]⟩ [(6,13,oc hb148)] ?_
      exact eN h (gg [] [0,1,2,3,4,5,6,7,8,9])
     refine aA (cQ h (fun(d126,d127)=>aL [(0,.adr 0 0 13 0),(4,.st r775)] (aFd d1 r777 d3 d4 d5 d6 d126 d127 o3 d117 d118 d119 d120) 10 6) (fun r788 h=> ?_) (fun r788 h=> ?_))
     ·refine aS h (fun hb150 h=> ?_) (fun hb150 h=> ?_)
      ·obtain⟨⟨r786,r787⟩,q218,h⟩:=aC h
       refine lR 2 [0,6,7,3,8,9] (dN q218) ?_
       exact eN h (gg [] [0,1,2,3,4,5,6,7,8,9])
      refine aB ?_
      exact eN h (gg [] [0,1,2,3,4,5,6,7,8,9])
     obtain⟨d126,d127⟩:=r788
     refine aA (G (aS h (fun hb151 h=> ?_) (fun hb151 h=> ?_)))
     ·refine G ?_
      obtain⟨c92,h⟩:=bA h
      obtain⟨⟨r791,r792⟩,q220,h⟩:=aC h
      have u_1:=(qH q220)
      refine GN ⟨[],[(4,(oO u_1 [0,6,7,3,8,9]))]⟩ [(3,3,oc c92),(4,4,oc u_1)] (GC 8 h (fun h=>GCe 8 h (fun h=>aI ?_)))
      exact eB h (gg [] [0,1,2,3,4,5,210,314,138,139])
     refine aB (aI ?_)
     exact eB h (gg [] [0,1,2,3,4,5,6,7,8,9])
    refine aM (bM ?_)
    exact eX h (gg [] [0,1,2,3,4,5,6,7,8,9])
   obtain⟨v80,v81,v82,v83,v84,v85,v86⟩:=r793
   refine aO ?_
   exact eN h (gg [] [0,1,2,3,4,5,6,7,3,8,9])
  refine G (aS h (fun hb152 h=> ?_) (fun hb152 h=> ?_))
  ·obtain⟨⟨r799,r800,r801,r802,r803⟩,q222,h⟩:=aC h
   refine GO 1 [0,1,2,3,4,5] (tG q222) ?_
   obtain⟨⟨r807,r808,r809⟩,q224,h⟩:=aC h
   refine GO 1 [0,1,2,3,4,5] (iH q224) ?_
   obtain⟨⟨r814,r815,r816,r817⟩,q226,h⟩:=aC h
   refine GO 1 [0,1,2,3,4,5] (l7 q226) (G (aS h (fun hb153 h=> ?_) (fun hb153 h=> ?_)))
   ·obtain⟨⟨r820,r821⟩,q228,h⟩:=aC h
    refine lR 3 [0,1,2,3,4,5] (qH q228) ?_
    exact eN h (gg [] [0,1,2,3,4,5,1,2,3,262,263])
   refine aB ?_
   exact eN h (gg [] [0,1,2,3,4,5,1,2,3,4,5])
  refine G (aS h (fun hb154 h=> ?_) (fun hb154 h=> ?_))
  ·obtain⟨⟨r826,r827,r828,r829⟩,q230,h⟩:=aC h
   refine GO 1 [0,1,2,3,4,5] (l7 q230) (G ?_)
   obtain⟨⟨r834,r835,r836,r837⟩,q232,h⟩:=aC h
   refine GO 1 [0,1,2,3,4,5] (l7 q232) (Ge ?_)
   exact eN h (gg [] [0,1,2,3,4,5,1,2,3,4,5])
  refine G (aS h (fun hb155 h=> ?_) (fun hb155 h=> ?_))
  ·obtain⟨⟨r842,r843,r844,r845⟩,q234,h⟩:=aC h
   refine GO 1 [0,1,2,3,4,5] (sA q234) ?_
   obtain⟨⟨r849,r850,r851⟩,q236,h⟩:=aC h
   refine GO 1 [0,1,2,3,4,5] (iH q236) ?_
   obtain⟨⟨r856,r857,r858,r859⟩,q238,h⟩:=aC h
   refine GO 1 [0,1,2,3,4,5] (sA q238) (aD (G (cQ h (fun d128=>aL [(0,.adr 0 0 13 0)] (bS d1 r857 d3 d4 d5 d6 r858 r859 o1 d128 o3 o4 o5) 6 6) (fun d128 h=> ?_) (fun d128 h=> ?_))))
   ·refine aS h (fun hb157 h=> ?_) (fun hb157 h=> ?_)
    ·obtain⟨c103,c104,h⟩:=g2 h
     refine dX a0 [(7,7,oc c103),(8,8,oc c104)] ?_
     exact eN h (gg [] [0,1,2,3,4,5])
    refine aB ?_
    exact eN h (gg [] [0,1,2,3,4,5])
   refine aA ?_
   obtain⟨⟨r863,r864,r865⟩,q240,h⟩:=aC h
   refine lR 1 [0,1,2,3,4,5] (iH q240) ?_
   exact eN h (gg [] [0,1,2,3,4,5,1,2,3,4,5])
  refine G (aS h (fun hb158 h=> ?_) (fun hb158 h=> ?_))
  ·obtain⟨⟨r872,r873,r874,r875,r876,r877⟩,q242,h⟩:=aC h
   refine lR 2 [0,1,2,3,4,5] (pQ q242) ?_
   exact eN h (gg [] [0,1,2,3,4,5,1,2,166,4,5])
  refine G (aS h (fun hb159 h=> ?_) (fun hb159 h=> ?_))
  ·obtain⟨⟨r884,r885,r886,r887,r888,r889⟩,q244,h⟩:=aC h
   refine lR 2 [0,1,2,3,4,5] (pQ q244) ?_
   exact eN h (gg [] [0,1,2,3,4,5,1,2,182,4,5])
  refine G (aS h (fun hb160 h=> ?_) (fun hb160 h=> ?_))
  ·obtain⟨⟨r896,r897,r898,r899,r900,r901⟩,q246,h⟩:=aC h
   refine lR 2 [0,1,2,3,4,5] (pQ q246) ?_
   exact eN h (gg [] [0,1,2,3,4,5,1,2,198,4,5])
  obtain⟨⟨r904,r905⟩,q248,h⟩:=aC h
  refine lR 2 [0,1,2,3,4,5] (dN q248) ?_
  exact eN h (gg [] [0,1,2,3,4,5,1,2,3,4,5])
 obtain⟨v64,v65,v66,v67,v68,v69,v70,v71,v72,v73,v74,v75⟩:=r906
 refine aI ?_
 obtain rfl:=sI h
 exact(aE [] [] [0,1,2,3,4,5,6,7,8,9,10] [] (aFv d1 v64 v66 v67 v72 v73 v74 v75 v65 v68 v69 v70 v71) 11 6 (by kernel_rfl) (by kernel_rfl) (by kernel_rfl)).normal
def c9(t1:List UInt8):(Int×(List (List UInt8))×Int×Int×(List Int)×(List (Int×Tree×Tree))×(List (List UInt8))×(List Int)×Int×Int×Int×Int)→Option ((Int×(List (List UInt8))×Int×Int×(List Int)×(List (Int×Tree×Tree))×(List (List UInt8))×(List Int)×Int×Int×Int×Int)⊕(Int×(List (List UInt8))×Int×Int×(List Int)×(List (Int×Tree×Tree))×(List (List UInt8))×(List Int)×Int×Int×Int×Int)):=fun(p19,p20,p21,p22,p23,p24,p25,p26,p27,p28,p29,p30) =>
 ((((gC t1 p19 p21 p22 p27 p28 p29 p30 p20 p23 p24 p25 p26).bind fun(r83,r84,r85,r86) =>
 (if(r83 != (0:Int))=true then some ((r84,r85,r86,(r85 == (0:Int))))
 else some ((r84,r85,r86,false))))).bind fun(p43,p44,p45,v3)=>(if v3=true then((l4 t1 p43 p21 p22 p27 p28 p44 p45 p20 p23 p24 p25 p26).bind fun(r100,r101,r102,r103,r104,r105,r106,r107,r108,r109,r110,r111) =>
 some (Sum.inl (r100,r101,r102,r103,r104,r105,r106,r107,r108,r109,r110,r111)))
 else some (Sum.inr (p43,p20,p21,p22,p23,p24,p25,p26,p27,p28,p44,p45))))
def pW(t1:List UInt8):Option (((List (List UInt8))×Int×Int×(List Int)×List (Int×Tree×Tree))×Int×Int) :=
 (if(decide ((t1.length:Int) > (4096:Int)))=true then some ((([]:List (List UInt8)),((0:Int),((0:Int),(([]:List Int),([]:List (Int×Tree×Tree)))))),(24:Int),(4096:Int))
 else((iter (c9 t1) ((0:Int),([]:List (List UInt8)),(0:Int),(0:Int),([]:List Int),([]:List (Int×Tree×Tree)),([]:List (List UInt8)),([]:List Int),(0:Int),(0:Int),(0:Int),(0:Int))).bind fun(p31,p32,p33,p34,p35,p36,p37,p38,p39,p40,p41,p42)=>(if(p41 != (0:Int))=true then some ((([]:List (List UInt8)),((0:Int),((0:Int),(([]:List Int),([]:List (Int×Tree×Tree)))))),p41,p42)
 else some ((p32,(p33,(p34,(p35,p36)))),(0:Int),(0:Int)))))
theorem aAA{t1:List UInt8}{res:((List (List UInt8))×Int×Int×(List Int)×List (Int×Tree×Tree))×Int×Int}(h:pW t1=some res):
  Pure Tryd.prog 16 [.st t1] (b8 (fR false [⟨Y4,res.1⟩,⟨(.int .i64),res.2.1⟩,⟨(.int .i64),res.2.2⟩])):=by
 refine Pure.of_body bH Tryd.func16 (by kernel_rfl) rfl (nl rfl) (fun Bw w0=> ?_) rfl
 unfold pW at h
 refine G (aD (G (aS h (fun hb1 h=> ?_) (fun hb1 h=> ?_))))
 ·refine G (aQ (aG ?_))
  obtain rfl:=sI h
  exact aK [Y4,(.int .i64),(.int .i64)] (by kernel_rfl)
 refine aB (aA (G (aD (aF (iK h (fun(p19,p20,p21,p22,p23,p24,p25,p26,p27,p28,p29,p30)=>aL [(2,.adr 0 0 5 0),(5,.adr 1 0 13 0)] (aGk (0:Int) (0:Int) t1 p19 p21 p22 p27 p28 p29 p30 p20 p23 p24 p25 p26) 7) 0 (fun(p31,p32,p33,p34,p35,p36,p37,p38,p39,p40,p41,p42)=>aL [(2,.adr 0 0 5 0),(5,.adr 1 0 13 0)] (aGk (0:Int) (0:Int) t1 p31 p33 p34 p39 p40 p41 p42 p32 p35 p36 p37 p38) 7) (gg [.nilC 64 2 80 9 .str,.nilC 64 5 81 3 (.int .i64),.nilC 64 6 82 74 (.prod (.int .u8) Y1),.nilC 64 7 83 9 .str,.nilC 64 8 84 30 (.int .u32)] [0,64,80,81,82,83,84]) (fun y o h=> ?_) (fun r112 h=> ?_))))))
 ·obtain⟨p19,p20,p21,p22,p23,p24,p25,p26,p27,p28,p29,p30⟩:=y
  unfold c9 at h
  refine aD (aD (cQ h (fun(p43,p44,p45,v3)=>aL [(2,.adr 0 0 5 0),(5,.adr 1 0 13 0),(22,.bo v3)] (aGk (0:Int) (0:Int) t1 p43 p21 p22 p27 p28 p44 p45 p20 p23 p24 p25 p26) 7) (fun r87 h=> ?_) (fun r87 h=> ?_)))
  ·obtain⟨⟨r83,r84,r85,r86⟩,q13,h⟩:=aC h
   rcases bC h with⟨hb12,h⟩ | ⟨hb12,h⟩
   ·have u_1:=(jY q13)
    refine dX ⟨[(3,true),(9,true)],[(1,(oO u_1 [1,2,3,4,5,6]))]⟩ [(1,1,oc u_1),(4,8,an hb12),(9,9,oc hb12)] ?_
    exact eN h (gg [] [0,1,2,3,4,5,6])
   have u_1:=(jY q13)
   refine dX ⟨[(3,false),(9,false)],[(1,(oO u_1 [1,2,3,4,5,6]))]⟩ [(1,1,oc u_1),(4,9,oc hb12)] ?_
   exact eN h (gg [] [0,1,2,3,4,5,6])
  obtain⟨p43,p44,p45,v3⟩:=r87
  refine aA (aS h (fun hb13 h=> ?_) (fun hb13 h=> ?_))
  ·refine aB (aA (aF ?_))
   obtain⟨⟨r100,r101,r102,r103,r104,r105,r106,r107,r108,r109,r110,r111⟩,q15,h⟩:=aC h
   refine lR 1 [1,2,3,4,5,6] (P8 q15) (aI ?_)
   exact eB h (gg [] [0,1,15,16,17,18,19])
  refine aM (bM ?_)
  exact eX h (gg [] [0,1,2,3,4,5,6])
 obtain⟨p31,p32,p33,p34,p35,p36,p37,p38,p39,p40,p41,p42⟩:=r112
 refine aO (aA (aD (G (aS h (fun hb14 h=> ?_) (fun hb14 h=> ?_)))))
 ·refine GD a0 [] (aQ (aG ?_))
  obtain rfl:=sI h
  exact aK [Y4,(.int .i64),(.int .i64)] (by kernel_rfl)
 refine aB (aA (G (aQ ?_)))
 obtain rfl:=sI h
 exact aK [Y4,(.int .i64),(.int .i64)] (by kernel_rfl)
def cM(p1 p2 p3:Int)(p4:List Int)(p5:List (Int×(List Int)×List Int)):Option ((Option (((List (List UInt8))×Int×Int×(List Int)×List (Int×Tree×Tree))×((List (List Int))×List Int)×(List (List Int))×List Int))×((List (List UInt8))×Int×Int×(List Int)×List (Int×Tree×Tree))×Bool) :=
 ((uE p1 p2 p3 p4 p5).bind fun r4 =>
 ((mG r4).bind fun(r5,r6) =>
 ((uE p1 p2 p3 p4 p5).bind fun r11 =>
 ((pW r11).bind fun(r12,r13,r14) =>
 some (r5,(r12.1,(r12.2.1,(r12.2.2.1,(r12.2.2.2.1,r12.2.2.2.2)))),(r6.1 == (0:Int)))))))
theorem gE(β3:Bool){p1:Int}{p2:Int}{p3:Int}{p4:List Int}{p5:List (Int×(List Int)×List Int)}{res:(Option (((List (List UInt8))×Int×Int×(List Int)×List (Int×Tree×Tree))×((List (List Int))×List Int)×(List (List Int))×List Int))×((List (List UInt8))×Int×Int×(List Int)×List (Int×Tree×Tree))×Bool}(h:cM p1 p2 p3 p4 p5=some res):
  Pure Tryd.prog 9 [.agg [.u8 p1,.u8 p2,.u8 p3,.p β3 (.slice (.int .u8)) p4,.p false (.slice (.prod (.int .u8) Y11)) p5]] (b8 (fR false [⟨(.ptr Y7),res.1⟩,⟨Y4,res.2.1⟩,⟨.bool,res.2.2⟩])):=by
 refine Pure.of_body bH Tryd.func9 (by kernel_rfl) rfl (nl rfl) (fun Bw w0=> ?_) rfl
 unfold cM at h
 refine G ?_
 obtain⟨r4,q3,h⟩:=aC h
 obtain⟨⟨r5,r6⟩,q4,h⟩:=aC h
 have u_1:=(J3 β3 q3)
 have u_2:=(tO q4)
 refine GN ⟨[],[(1,(oP u_1)),(2,(oP u_2))]⟩ [(1,1,oc u_1),(2,2,oc u_2)] ?_
 obtain⟨r11,q7,h⟩:=aC h
 obtain⟨⟨r12,r13,r14⟩,q8,h⟩:=aC h
 have u_1:=(J3 β3 q7)
 have u_2:=(aAA q8)
 refine GN ⟨[],[(1,(oP u_1)),(2,(oP u_2))]⟩ [(1,1,oc u_1),(2,2,oc u_2)] (GD a0 [] (aQ ?_))
 obtain rfl:=sI h
 exact aK [(.ptr Y7),Y4,.bool] (by kernel_rfl)
end
end Go.Proofs.YtacpjjgochokcaaDoor.T
