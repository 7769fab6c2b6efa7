/- Functions of the program as functions on data, and that the program's own come to them. -/
import Derived.Test.YtmcemnfjddoejaaGreatDoorTvSt
import Derived.Test.YtmcemnfjddoejaaGreatDoorProg
import Derived.KernelRfl
namespace Go.Proofs.YtmcemnfjddoejaaGreatDoor.T
open Go Go.Tv Go.Proofs
noncomputable section
set_option maxRecDepth 100000
set_option maxHeartbeats 4000000
abbrev Z8:Type:=Int×Tree×Tree
abbrev Jl:Type:=(List (List UInt8))×Int×Int×(List Int)×List Z8
abbrev Ep:Type:=(List (List Int))×List Int
abbrev Z7:Type:=Jl×Ep×(List (List Int))×List Int
abbrev AE:Type:=(ep 4352)×List (ep 256)
abbrev eD:Type:=Int×Int×Int
abbrev Iv:Type:=(List ((List (Int×Int))×List Int))×Unit
abbrev jd:Type:=(List Int)×List Int
abbrev Z5:Type:=(List eD)×(Option Iv)×(List jd)×Int×Int
abbrev Z1:Type:=(Option Z7)×(Option Z7)×(Option AE)×(Option AE)×(Option AE)×Option Z5
abbrev Z2:Type:=Int×Int×Int×Int
abbrev Z3:Type:=Int×(Int×Int×List Int)×(Int×Int×Int×Int×Int×Option Nat)×Int×Bool×Int×Int
abbrev Z4:Type:=((List Z2)×List Int)×(List Z2)×List (List Int)
abbrev Z6:Type:=(List UInt8)×Int
abbrev Z9:Type:=(List UInt8)×(List Z2)×Bool
abbrev pP:Type:=Int×(Int×Int)×Int×(List Z2)×Bool
abbrev ub:Type:=Bool×Z2×Int×Int×Int×Int
abbrev qc:Type:=Tree×Int×Int×Int
abbrev JO:Type:=Int×(List (List UInt8))×Int×Int×(List Int)×(List Z8)×(List Z6)×Int×Int
abbrev tP:Type:=(List Int)×Int
abbrev K6:Type:=Int×(List Z2)×Bool×(List Int)×(List Z2)×(List Int)×(Option Z4)×List Z9
abbrev Y1:Ty:=(.prod (.int .i32) (.int .i64))
abbrev Y2:Ty:=(.prod (.int .i64) (.int .i64))
abbrev Y3:Ty:=(.prod .str (.prod .str Y2))
abbrev Y4:Ty:=(.prod (.slice (.prod (.int .i32) Y1)) (.prod .str Y3))
abbrev Y5:Ty:=(.prod (.slice (.prod (.int .i32) Y1)) Y4)
abbrev Y6:Ty:=(.prod (.slice (.prod (.int .i32) Y1)) Y5)
abbrev Y7:Ty:=(.prod (.slice (.prod (.int .i32) Y1)) Y6)
abbrev Y8:Ty:=(.prod (.int .i64) (.int .u8))
abbrev Y9:Ty:=(.prod (.int .i64) (.prod (.int .i64) Y8))
abbrev F8:Ty:=(.prod (.slice Y9) .bool)
abbrev xQ:Ty:=(.prod Y2 (.prod (.int .i64) F8))
abbrev Cq:Ty:=(.prod (.tree .u8 .u32) (.tree .u8 .u32))
abbrev My:Ty:=(.prod (.slice (.int .i64)) (.slice (.prod (.int .u8) Cq)))
abbrev MP:Ty:=(.prod (.int .u32) (.prod (.int .u32) My))
abbrev JR:Ty:=(.prod (.slice .str) MP)
abbrev CP:Ty:=(.prod (.slice (.slice (.int .i64))) (.slice (.int .u32)))
abbrev mw:Ty:=(.prod JR (.prod CP CP))
abbrev Mu:Ty:=(.prod (.int .u64) (.int .u64))
abbrev l0:Ty:=(.prod (.int .u64) (.prod (.int .u64) Mu))
abbrev BX:Ty:=(.prod .bool (.prod l0 l0))
abbrev xn:Ty:=(.prod (.arr .i64 4352) (.slice (.arr .u8 256)))
abbrev KL:Ty:=(.prod (.mapi .i32 .i64) (.slice (.int .u8)))
abbrev tZ:Ty:=(.prod (.slice KL) .unit)
abbrev wS:Ty:=(.prod (.slice (.int .i32)) (.slice (.int .u8)))
abbrev MB:Ty:=(.prod (.ptr tZ) (.prod (.slice wS) Y2))
abbrev nm:Ty:=(.prod (.slice (.prod (.int .i32) Y1)) MB)
abbrev MW:Ty:=(.prod (.ptr xn) (.ptr nm))
abbrev MQ:Ty:=(.prod (.ptr xn) (.prod (.ptr xn) MW))
abbrev u7:Ty:=(.prod (.ptr mw) (.prod (.ptr mw) MQ))
abbrev IF:Ty:=(.prod (.slice wS) (.slice wS))
abbrev eO:Ty:=(.prod (.slice Y9) (.slice (.int .u8)))
abbrev fO:Ty:=(.prod (.slice Y9) (.slice (.slice (.int .i64))))
abbrev Mq:Ty:=(.prod (.int .i64) (.slice (.int .u8)))
abbrev MD:Ty:=(.prod (.int .i64) .flt)
abbrev MJ:Ty:=(.prod (.int .u8) (.prod (.int .i64) MD))
abbrev KM:Ty:=(.prod (.int .i64) (.prod (.int .i64) MJ))
abbrev ME:Ty:=(.prod (.int .i64) (.prod .bool Y2))
abbrev CO:Ty:=(.prod (.prod (.int .i64) Mq) (.prod KM ME))
abbrev ML:Ty:=(.prod (.int .u16) .flt)
abbrev MY:Ty:=(.prod (.int .u8) (.prod (.int .u16) ML))
abbrev MG:Ty:=(.prod (.int .u8) (.prod (.int .u8) MY))
abbrev Ms:Ty:=(.prod (.slice l0) .bool)
abbrev MH:Ty:=(.prod (.slice (.int .u32)) Ms)
abbrev Mw:Ty:=(.prod (.int .u8) (.int .u8))
abbrev MA:Ty:=(.prod (.int .u8) (.prod (.int .u8) Mw))
abbrev Mz:Ty:=(.prod (.int .u8) (.prod (.int .u8) MA))
abbrev Mv(f:Int)(j:Int)(k:Int)(p:Int)(q:List UInt8)(u:Int)(v:Int)(x:Int)(z:Int)(c:Int)(e:List Z6):List (Nat×Tv.Obj):=[(0,.box [.nils,.u32 f,.u32 j,.nils,.nils]),(1,.box [.i64 k,.i64 p]),(2,.box [.st q,.i64 u,.nils,.u32 v,.u32 x,.nils,.nils,.mp 3,.i64 z,.i64 c]),(3,.mpo .str (.int .u32) e)]
abbrev Lt(c:List UInt8)(e:Int)(f:Int)(j:Int)(k:Int)(p:Int)(q:List Z6):List (Nat×Tv.Obj):=[(0,.box [.st c,.i64 e,.nils,.u32 f,.u32 j,.nils,.nils,.mp 1,.i64 k,.i64 p]),(1,.mpo .str (.int .u32) q)]
abbrev Ka(c:Int)(e:Int)(f:Int)(j:Int):List (Nat×Tv.Obj):=[(0,.box [.nils,.u32 c,.u32 e,.nils,.nils]),(1,.box [.i64 f,.i64 j])]
abbrev bG(e:List UInt8)(f:Int)(j:Int)(k:Int)(m:Int)(p:Int)(q:List (List UInt8))(u:List Int)(v:List Z8)(c:List Z6):List (Nat×Tv.Obj):=[(0,.box [.st e,.i64 f,.sl 1,.u32 j,.u32 k,.sl 2,.sl 3,.mp 4,.i64 m,.i64 p]),(1,.arr 9 .str q),(2,.arr 3 (.int .i64) u),(3,.arr 210 (.prod (.int .u8) Cq) v),(4,.mpo .str (.int .u32) c)]
abbrev ID(e:List UInt8)(f:Int)(j:Int)(k:Int)(m:Int)(p:Int)(q:List Z8)(u:List Z6)(v:List (List UInt8))(c:List Int):List (Nat×Tv.Obj):=[(0,.box [.st e,.i64 f,.sl 5,.u32 j,.u32 k,.sl 6,.sl 3,.mp 4,.i64 m,.i64 p]),(3,.arr 210 (.prod (.int .u8) Cq) q),(4,.mpo .str (.int .u32) u),(5,.arr 9 .str v),(6,.arr 3 (.int .i64) c)]
abbrev Mi(m:List UInt8)(p:Int)(q:Int)(u:Int)(v:Int)(x:Int)(z:List (List UInt8))(A:List Int)(B:List Z8)(c:List Z6)(e:Int)(f:Int)(j:Int)(k:Int):List (Nat×Tv.Obj):=[(0,.box [.st m,.i64 p,.sl 1,.u32 q,.u32 u,.sl 2,.sl 3,.mp 4,.i64 v,.i64 x]),(1,.arr 9 .str z),(2,.arr 3 (.int .i64) A),(3,.arr 210 (.prod (.int .u8) Cq) B),(4,.mpo .str (.int .u32) c),(5,.box [.u8 e,.u32 f,.nils]),(6,.box [.u8 j,.u32 k,.nils])]
abbrev KQ(j:List UInt8)(k:Int)(m:Int)(p:Int)(q:Int)(u:Int)(v:List (List UInt8))(x:List Int)(z:List Z8)(c:List Z6)(e:Int)(f:Int):List (Nat×Tv.Obj):=[(0,.box [.st j,.i64 k,.sl 1,.u32 m,.u32 p,.sl 2,.sl 3,.mp 4,.i64 q,.i64 u]),(1,.arr 9 .str v),(2,.arr 3 (.int .i64) x),(3,.arr 210 (.prod (.int .u8) Cq) z),(4,.mpo .str (.int .u32) c),(5,.box [.u8 e,.u32 f,.nils])]
abbrev J0(q:List UInt8)(u:Int)(v:Int)(x:Int)(z:Int)(A:Int)(B:List (List UInt8))(C:List Int)(D:List Z8)(c:List Z6)(e:Int)(f:Int)(j:Int)(k:Int)(m:List Tree):List (Nat×Tv.Obj):=[(0,.box [.st q,.i64 u,.sl 1,.u32 v,.u32 x,.sl 2,.sl 3,.mp 4,.i64 z,.i64 A]),(1,.arr 9 .str B),(2,.arr 3 (.int .i64) C),(3,.arr 210 (.prod (.int .u8) Cq) D),(4,.mpo .str (.int .u32) c),(5,.box [.u8 e,.u32 f,.nils]),(6,.box [.u8 j,.u32 k,.p false (.slice (.tree .u8 .u32)) m])]
abbrev DL(k:List UInt8)(m:Int)(q:Int)(u:Int)(v:Int)(x:Int)(z:List (List UInt8))(A:List Int)(B:List Z8)(c:List Z6)(e:Int)(f:Int)(j:List Tree):List (Nat×Tv.Obj):=[(0,.box [.st k,.i64 m,.sl 1,.u32 q,.u32 u,.sl 2,.sl 3,.mp 4,.i64 v,.i64 x]),(1,.arr 9 .str z),(2,.arr 3 (.int .i64) A),(3,.arr 210 (.prod (.int .u8) Cq) B),(4,.mpo .str (.int .u32) c),(5,.box [.u8 e,.u32 f,.p false (.slice (.tree .u8 .u32)) j])]
abbrev Gu(k:List UInt8)(m:Int)(p:Int)(q:Int)(u:Int)(v:Int)(x:List (List UInt8))(z:List Int)(A:List Z8)(c:List Z6)(e:Int)(f:Int)(j:List Tree):List (Nat×Tv.Obj):=[(0,.box [.st k,.i64 m,.sl 1,.u32 p,.u32 q,.sl 2,.sl 3,.mp 4,.i64 u,.i64 v]),(1,.arr 9 .str x),(2,.arr 3 (.int .i64) z),(3,.arr 210 (.prod (.int .u8) Cq) A),(4,.mpo .str (.int .u32) c),(5,.box [.u8 e,.u32 f,.nils]),(6,.arr 208 (.tree .u8 .u32) j)]
abbrev Ks(e:List UInt8)(f:Int)(j:Int)(k:Int)(m:Int)(p:Int)(q:List (List UInt8))(u:List Int)(v:List Z6)(c:List Z8):List (Nat×Tv.Obj):=[(0,.box [.st e,.i64 f,.sl 1,.u32 j,.u32 k,.sl 2,.sl 5,.mp 4,.i64 m,.i64 p]),(1,.arr 9 .str q),(2,.arr 3 (.int .i64) u),(4,.mpo .str (.int .u32) v),(5,.arr 210 (.prod (.int .u8) Cq) c)]
abbrev L5(f:List UInt8)(j:Int)(k:Int)(m:Int)(p:Int)(q:Int)(u:List Z6)(v:List (List UInt8))(x:List Int)(c:List Z8)(e:List Z6):List (Nat×Tv.Obj):=[(0,.box [.st f,.i64 j,.sl 2,.u32 k,.u32 m,.sl 3,.sl 4,.mp 1,.i64 p,.i64 q]),(1,.mpo .str (.int .u32) u),(2,.arr 9 .str v),(3,.arr 3 (.int .i64) x),(4,.arr 210 (.prod (.int .u8) Cq) c),(5,.mpl .str [(([99,108,97,115,115]:List UInt8),(hU 97)),(([115,101,116]:List UInt8),(hU 98)),(([106,111,105,110]:List UInt8),(hU 99)),(([116,114,101,97,116]:List UInt8),(hU 100))]),(6,.mpo .str (.int .u8) e)]
abbrev Kb(e:List UInt8)(f:Int)(j:Int)(k:Int)(m:Int)(p:Int)(q:List Z6)(u:List (List UInt8))(v:List Int)(c:List Z8):List (Nat×Tv.Obj):=[(0,.box [.st e,.i64 f,.sl 2,.u32 j,.u32 k,.sl 3,.sl 4,.mp 1,.i64 m,.i64 p]),(1,.mpo .str (.int .u32) q),(2,.arr 9 .str u),(3,.arr 3 (.int .i64) v),(4,.arr 210 (.prod (.int .u8) Cq) c)]
abbrev L8(k:Int)(m:Int)(q:Bool)(u:List Tree)(v:Int)(x:Int)(z:Int)(A:Int)(B:List Tree)(c:Int)(e:Int)(f:Bool)(j:List Tree):List (Nat×Tv.Obj):=[(0,.box [.u8 k,.u32 m,.p q (.slice (.tree .u8 .u32)) u]),(1,.box [.u8 v,.u32 x,.nils]),(2,.box [.u8 z,.u32 A,.sl 3]),(3,.arr 208 (.tree .u8 .u32) B),(4,.box [.u8 c,.u32 e,.p f (.slice (.tree .u8 .u32)) j])]
abbrev LM(c:Int)(e:Int)(f:Bool)(j:List Tree)(k:Int)(m:Int)(q:Int)(u:Int)(v:List Tree):List (Nat×Tv.Obj):=[(0,.box [.u8 c,.u32 e,.p f (.slice (.tree .u8 .u32)) j]),(1,.box [.u8 k,.u32 m,.nils]),(2,.box [.u8 q,.u32 u,.sl 3]),(3,.arr 208 (.tree .u8 .u32) v)]
abbrev Mb(c:Int)(e:Int)(f:Int)(j:Int)(k:List Tree):List (Nat×Tv.Obj):=[(0,.box [.u8 c,.u32 e,.nils]),(1,.box [.u8 f,.u32 j,.sl 2]),(2,.arr 208 (.tree .u8 .u32) k)]
abbrev JD(c:Bool)(e:Int)(f:Int)(j:Int)(k:Int)(m:Int)(p:Int)(q:Int)(u:Int):List (Nat×Tv.Obj):=[(0,.box [.bo c,.u64 e,.u64 f,.u64 j,.u64 k,.u64 m,.u64 p,.u64 q,.u64 u])]
abbrev KC(c:Int)(e:Int)(f:Int)(j:Int)(k:Int)(m:Int)(p:Int)(q:Int):List (Nat×Tv.Obj):=[(0,.box [.u64 c,.u64 e,.u64 f,.u64 j]),(1,.box [.u64 k,.u64 m,.u64 p,.u64 q])]
abbrev DZ(c:Bool)(e:List Int)(f:List Z2):List (Nat×Tv.Obj):=[(0,.box [.sl 1,.sl 2,.bo c]),(1,.arr 136 (.int .u32) e),(2,.arr 262 l0 f)]
abbrev Mc(j:Int)(k:Int)(m:Int)(p:Int)(q:Int)(u:Int)(v:Int)(x:Int)(z:Int)(c:Int)(e:Int)(f:Int):List (Nat×Tv.Obj):=[(0,.box [.u64 j,.u64 k,.u64 m,.u64 p]),(1,.box [.u64 q,.u64 u,.u64 v,.u64 x]),(2,.box [.u64 z,.u64 c,.u64 e,.u64 f])]
abbrev KI(f:Bool)(j:List Int)(k:List Z2)(m:Int)(p:Int)(q:Int)(u:Int)(v:Int)(x:Int)(c:Int)(e:Int):List (Nat×Tv.Obj):=[(0,.box [.sl 1,.sl 2,.bo f]),(1,.arr 136 (.int .u32) j),(2,.arr 262 l0 k),(3,.box [.u64 m,.u64 p,.u64 q,.u64 u]),(4,.box [.u64 v,.u64 x,.u64 c,.u64 e])]
abbrev LB(u:Bool)(v:List Int)(x:List Z2)(z:Int)(A:Int)(B:Bool)(C:List Tree)(D:Bool)(E:Int)(c:Int)(e:Int)(f:Int)(j:Int)(k:Int)(m:Int)(q:Int):List (Nat×Tv.Obj):=[(0,.box [.sl 1,.sl 2,.bo u]),(1,.arr 136 (.int .u32) v),(2,.arr 262 l0 x),(3,.box [.u8 z,.u32 A,.p B (.slice (.tree .u8 .u32)) C]),(4,.box [.bo D,.u64 E,.u64 c,.u64 e,.u64 f,.u64 j,.u64 k,.u64 m,.u64 q])]
abbrev JF(c:Bool)(e:List Int)(f:List Z2):List (Nat×Tv.Obj):=[(0,.box [.sl 3,.sl 4,.bo c]),(3,.arr 136 (.int .u32) e),(4,.arr 262 l0 f)]
abbrev Lo(N:Bool)(O:List Int)(R:List Z2)(V:Bool)(X:Int)(Y:Int)(Z:Int)(a8:Int)(a9:Int)(c:Int)(e:Int)(f:Int)(j:Bool)(k:Int)(m:Int)(p:Int)(q:Int)(u:Int)(v:Int)(x:Int)(z:Int)(A:Bool)(B:Int)(C:Int)(D:Int)(E:Int)(I:Int)(J:Int)(L:Int)(M:Int):List (Nat×Tv.Obj):=[(0,.box [.sl 3,.sl 4,.bo N]),(3,.arr 136 (.int .u32) O),(4,.arr 262 l0 R),(5,.box [.bo V,.u64 X,.u64 Y,.u64 Z,.u64 a8,.u64 a9,.u64 c,.u64 e,.u64 f]),(6,.box [.bo j,.u64 k,.u64 m,.u64 p,.u64 q,.u64 u,.u64 v,.u64 x,.u64 z]),(7,.box [.bo A,.u64 B,.u64 C,.u64 D,.u64 E,.u64 I,.u64 J,.u64 L,.u64 M])]
abbrev IB(A:Bool)(B:List Int)(C:List Z2)(D:Bool)(E:Int)(I:Int)(J:Int)(L:Int)(M:Int)(c:Int)(e:Int)(f:Int)(j:Bool)(k:Int)(m:Int)(p:Int)(q:Int)(u:Int)(v:Int)(x:Int)(z:Int):List (Nat×Tv.Obj):=[(0,.box [.sl 3,.sl 4,.bo A]),(3,.arr 136 (.int .u32) B),(4,.arr 262 l0 C),(5,.box [.bo D,.u64 E,.u64 I,.u64 J,.u64 L,.u64 M,.u64 c,.u64 e,.u64 f]),(6,.box [.bo j,.u64 k,.u64 m,.u64 p,.u64 q,.u64 u,.u64 v,.u64 x,.u64 z])]
abbrev JK(A:Bool)(B:Bool)(C:Int)(D:Int)(E:Int)(I:Int)(J:Int)(L:Int)(M:Int)(c:Int)(e:Bool)(f:Int)(j:Int)(k:Int)(m:Int)(p:Int)(q:Int)(u:Int)(v:Int)(x:List Int)(z:List Z2):List (Nat×Tv.Obj):=[(0,.box [.sl 5,.sl 6,.bo A]),(3,.box [.bo B,.u64 C,.u64 D,.u64 E,.u64 I,.u64 J,.u64 L,.u64 M,.u64 c]),(4,.box [.bo e,.u64 f,.u64 j,.u64 k,.u64 m,.u64 p,.u64 q,.u64 u,.u64 v]),(5,.arr 136 (.int .u32) x),(6,.arr 262 l0 z)]
abbrev LV(I:Bool)(J:Int)(L:Int)(M:Bool)(N:List Tree)(O:Bool)(R:Int)(V:Int)(X:Int)(c:Int)(e:Int)(f:Int)(j:Int)(k:Int)(m:Bool)(q:Int)(u:Int)(v:Int)(x:Int)(z:Int)(A:Int)(B:Int)(C:Int)(D:List Int)(E:List Z2):List (Nat×Tv.Obj):=[(0,.box [.sl 6,.sl 7,.bo I]),(3,.box [.u8 J,.u32 L,.p M (.slice (.tree .u8 .u32)) N]),(4,.box [.bo O,.u64 R,.u64 V,.u64 X,.u64 c,.u64 e,.u64 f,.u64 j,.u64 k]),(5,.box [.bo m,.u64 q,.u64 u,.u64 v,.u64 x,.u64 z,.u64 A,.u64 B,.u64 C]),(6,.arr 136 (.int .u32) D),(7,.arr 262 l0 E)]
abbrev LJ(I:Bool)(J:List Int)(L:List Z2)(M:Int)(N:Int)(O:Bool)(R:List Tree)(V:Bool)(X:Int)(c:Int)(e:Int)(f:Int)(j:Int)(k:Int)(m:Int)(q:Int)(u:Bool)(v:Int)(x:Int)(z:Int)(A:Int)(B:Int)(C:Int)(D:Int)(E:Int):List (Nat×Tv.Obj):=[(0,.box [.sl 3,.sl 4,.bo I]),(3,.arr 136 (.int .u32) J),(4,.arr 262 l0 L),(5,.box [.u8 M,.u32 N,.p O (.slice (.tree .u8 .u32)) R]),(6,.box [.bo V,.u64 X,.u64 c,.u64 e,.u64 f,.u64 j,.u64 k,.u64 m,.u64 q]),(7,.box [.bo u,.u64 v,.u64 x,.u64 z,.u64 A,.u64 B,.u64 C,.u64 D,.u64 E])]
abbrev E8(j:Bool)(k:List Int)(m:List Z2)(p:Bool)(q:Int)(u:Int)(v:Int)(x:Int)(z:Int)(c:Int)(e:Int)(f:Int):List (Nat×Tv.Obj):=[(0,.box [.sl 3,.sl 4,.bo j]),(3,.arr 136 (.int .u32) k),(4,.arr 262 l0 m),(5,.box [.bo p,.u64 q,.u64 u,.u64 v,.u64 x,.u64 z,.u64 c,.u64 e,.u64 f])]
abbrev FG(z:Bool)(A:List Int)(B:List Z2)(C:List ub)(D:Int)(E:Int)(I:Int)(J:Int)(L:List (List Int))(c:List Int)(e:List Z2)(f:List (Z2×Int))(j:Int)(k:Int)(m:Int)(p:Int)(q:Int)(u:Int)(v:Int)(x:Int):List (Nat×Tv.Obj):=[(0,.box [.nils,.nils]),(1,.box [.sl 2,.sl 3,.bo z]),(2,.arr 136 (.int .u32) A),(3,.arr 262 l0 B),(4,.arr 264 BX C),(5,.box [.u64 D,.u64 E,.u64 I,.u64 J]),(6,.box [.sl 7,.sl 8]),(7,.arr 80 (.slice (.int .i64)) L),(8,.arr 136 (.int .u32) c),(9,.arr 262 l0 e),(10,.mpo l0 (.int .i64) f),(11,.box [.u64 j,.u64 k,.u64 m,.u64 p]),(12,.box [.u64 q,.u64 u,.u64 v,.u64 x])]
abbrev H8(A:Bool)(B:List Int)(C:List Z2)(D:List ub)(E:Int)(I:Int)(J:Int)(L:Int)(M:List (List Int))(c:List Int)(e:List Z2)(f:List (Z2×Int))(j:Int)(k:Int)(m:Int)(p:Int)(q:List Int)(u:Int)(v:Int)(x:Int)(z:Int):List (Nat×Tv.Obj):=[(0,.box [.nils,.nils]),(1,.box [.sl 2,.sl 3,.bo A]),(2,.arr 136 (.int .u32) B),(3,.arr 262 l0 C),(4,.arr 264 BX D),(5,.box [.u64 E,.u64 I,.u64 J,.u64 L]),(6,.box [.sl 7,.sl 8]),(7,.arr 80 (.slice (.int .i64)) M),(8,.arr 136 (.int .u32) c),(9,.arr 262 l0 e),(10,.mpo l0 (.int .i64) f),(11,.box [.u64 j,.u64 k,.u64 m,.u64 p]),(12,.arr 3 (.int .i64) q),(13,.box [.u64 u,.u64 v,.u64 x,.u64 z])]
abbrev KT(u:Bool)(v:List Int)(x:List Z2)(z:List ub)(A:Int)(B:Int)(C:Int)(D:Int)(E:List (List Int))(c:List Int)(e:List Z2)(f:List (Z2×Int))(j:Int)(k:Int)(m:Int)(p:Int)(q:List Int):List (Nat×Tv.Obj):=[(0,.box [.nils,.nils]),(1,.box [.sl 2,.sl 3,.bo u]),(2,.arr 136 (.int .u32) v),(3,.arr 262 l0 x),(4,.arr 264 BX z),(5,.box [.u64 A,.u64 B,.u64 C,.u64 D]),(6,.box [.sl 7,.sl 8]),(7,.arr 80 (.slice (.int .i64)) E),(8,.arr 136 (.int .u32) c),(9,.arr 262 l0 e),(10,.mpo l0 (.int .i64) f),(11,.box [.u64 j,.u64 k,.u64 m,.u64 p]),(12,.arr 3 (.int .i64) q)]
abbrev LQ(k:Bool)(m:List Int)(p:List Z2)(q:List ub)(u:Int)(v:Int)(x:Int)(z:Int)(A:List (List Int))(c:List Int)(e:List Z2)(f:List (Z2×Int))(j:List Int):List (Nat×Tv.Obj):=[(0,.box [.nils,.nils]),(1,.box [.sl 2,.sl 3,.bo k]),(2,.arr 136 (.int .u32) m),(3,.arr 262 l0 p),(4,.arr 264 BX q),(5,.box [.u64 u,.u64 v,.u64 x,.u64 z]),(6,.box [.sl 7,.sl 8]),(7,.arr 80 (.slice (.int .i64)) A),(8,.arr 136 (.int .u32) c),(9,.arr 262 l0 e),(10,.mpo l0 (.int .i64) f),(11,.arr 3 (.int .i64) j)]
abbrev LY(q:Bool)(u:List Int)(v:List Z2)(x:List ub)(z:Int)(A:Int)(B:Int)(C:Int)(D:List (List Int))(c:List Int)(e:List Z2)(f:List (Z2×Int))(j:Int)(k:Int)(m:Int)(p:Int):List (Nat×Tv.Obj):=[(0,.box [.nils,.nils]),(1,.box [.sl 2,.sl 3,.bo q]),(2,.arr 136 (.int .u32) u),(3,.arr 262 l0 v),(4,.arr 264 BX x),(5,.box [.u64 z,.u64 A,.u64 B,.u64 C]),(6,.box [.sl 7,.sl 8]),(7,.arr 80 (.slice (.int .i64)) D),(8,.arr 136 (.int .u32) c),(9,.arr 262 l0 e),(10,.mpo l0 (.int .i64) f),(11,.box [.u64 j,.u64 k,.u64 m,.u64 p])]
abbrev LD(j:Bool)(k:List Int)(m:List Z2)(p:List ub)(q:Int)(u:Int)(v:Int)(x:Int)(z:List (List Int))(c:List Int)(e:List Z2)(f:List (Z2×Int)):List (Nat×Tv.Obj):=[(0,.box [.nils,.nils]),(1,.box [.sl 2,.sl 3,.bo j]),(2,.arr 136 (.int .u32) k),(3,.arr 262 l0 m),(4,.arr 264 BX p),(5,.box [.u64 q,.u64 u,.u64 v,.u64 x]),(6,.box [.sl 7,.sl 8]),(7,.arr 80 (.slice (.int .i64)) z),(8,.arr 136 (.int .u32) c),(9,.arr 262 l0 e),(10,.mpo l0 (.int .i64) f)]
abbrev KV(c:List (List Int))(e:List Int):List (Nat×Tv.Obj):=[(0,.box [.nils,.nils]),(1,.box [.sl 2,.sl 3]),(2,.arr 80 (.slice (.int .i64)) c),(3,.arr 136 (.int .u32) e)]
abbrev Kw(c:Bool)(e:List Int)(f:List Z2)(j:List ub)(k:Int)(m:Int)(p:Int)(q:Int):List (Nat×Tv.Obj):=[(0,.box [.nils,.nils]),(1,.box [.sl 2,.sl 3,.bo c]),(2,.arr 136 (.int .u32) e),(3,.arr 262 l0 f),(4,.arr 264 BX j),(5,.box [.u64 k,.u64 m,.u64 p,.u64 q])]
abbrev Kq(c:Bool)(e:List Int)(f:List Z2)(j:List ub):List (Nat×Tv.Obj):=[(0,.box [.nils,.nils]),(1,.box [.sl 2,.sl 3,.bo c]),(2,.arr 136 (.int .u32) e),(3,.arr 262 l0 f),(4,.arr 264 BX j)]
abbrev G9(c:Bool)(e:List (List Int))(f:Bool)(j:List Int):List (Nat×Tv.Obj):=[(0,.box [.p c (.slice (.slice (.int .i64))) e,.p f (.slice (.int .u32)) j])]
abbrev Ib(c:List Z6)(e:List Int)(f:List Int):List (Nat×Tv.Obj):=[(0,.mpo .str (.int .i64) c),(1,.arr 3 (.int .i64) e),(2,.arr 3 (.int .i64) f)]
abbrev IG(c:List Z6)(e:List Int)(f:List Int)(j:List Int):List (Nat×Tv.Obj):=[(0,.mpo .str (.int .i64) c),(1,.arr 3 (.int .i64) e),(2,.arr 3 (.int .i64) f),(3,.arr 5 (.int .u8) j)]
abbrev LI(c:Bool)(e:List (List Int))(f:Bool)(j:List Int)(k:List (List Int))(m:List Int)(q:List Int)(u:List Int):List (Nat×Tv.Obj):=[(0,.box [.p c (.slice (.slice (.int .i64))) e,.p f (.slice (.int .u32)) j]),(1,.box [.nils,.nils]),(2,.box [.sl 3,.sl 4]),(3,.arr 80 (.slice (.int .i64)) k),(4,.arr 136 (.int .u32) m),(5,.arr 3 (.int .i64) q),(6,.arr 3 (.int .i64) u)]
abbrev Kf(c:Bool)(e:List (List Int))(f:Bool)(j:List Int)(k:List (List Int))(m:List Int)(q:List Int)(u:List Int)(v:List Int):List (Nat×Tv.Obj):=[(0,.box [.p c (.slice (.slice (.int .i64))) e,.p f (.slice (.int .u32)) j]),(1,.box [.nils,.nils]),(2,.box [.sl 3,.sl 4]),(3,.arr 80 (.slice (.int .i64)) k),(4,.arr 136 (.int .u32) m),(5,.arr 3 (.int .i64) q),(6,.arr 3 (.int .i64) u),(7,.arr 3 (.int .i64) v)]
abbrev KA(c:Bool)(e:List (List Int))(f:Bool)(j:List Int)(k:List Int):List (Nat×Tv.Obj):=[(0,.box [.p c (.slice (.slice (.int .i64))) e,.p f (.slice (.int .u32)) j]),(1,.box [.nils,.nils]),(2,.box [.nils,.nils]),(3,.arr 3 (.int .i64) k)]
abbrev K0(c:Bool)(e:List (List Int))(f:Bool)(j:List Int)(k:List Int):List (Nat×Tv.Obj):=[(0,.box [.p c (.slice (.slice (.int .i64))) e,.p f (.slice (.int .u32)) j]),(1,.box [.nils,.nils]),(2,.box [.p false (.slice (.int .i64)) k])]
abbrev KJ(c:List (List UInt8))(e:Int)(f:Int)(j:List Int)(k:List Z8)(m:List Tree)(q:List Tree):List (Nat×Tv.Obj):=[(0,.box [.p false (.slice .str) c,.u32 e,.u32 f,.p false (.slice (.int .i64)) j,.p false (.slice (.prod (.int .u8) Cq)) k]),(1,.arr 208 (.tree .u8 .u32) m),(2,.arr 208 (.tree .u8 .u32) q)]
abbrev BG(c:ep 4352)(e:List (ep 256))(f:List ((ep 256)×Int))(j:ep 256):List (Nat×Tv.Obj):=[(0,.lmp .i64 4352 c [.sl 1]),(1,.arr 157 (.arr .u8 256) e),(2,.mpo (.arr .u8 256) (.int .i64) f),(3,.lmp .u8 256 j [])]
abbrev Lj(c:ep 4352)(e:List (ep 256))(f:List ((ep 256)×Int)):List (Nat×Tv.Obj):=[(0,.lmp .i64 4352 c [.sl 1]),(1,.arr 157 (.arr .u8 256) e),(2,.mpo (.arr .u8 256) (.int .i64) f)]
abbrev LG(c:ep 4352)(e:List (ep 256)):List (Nat×Tv.Obj):=[(0,.lmp .i64 4352 c [.sl 1]),(1,.arr 157 (.arr .u8 256) e)]
abbrev I3(c:Int)(e:Int)(f:Int)(j:Int)(k:Int)(m:Int):List (Nat×Tv.Obj):=[(0,.box [.i32 c,.i64 e,.i64 f]),(1,.box [.i32 j,.i64 k,.i64 m])]
abbrev IE(c:List Int)(e:List Int):List (Nat×Tv.Obj):=[(0,.box [.nils,.nils]),(1,.box [.sl 2,.sl 3]),(2,.arr 21 (.int .i32) c),(3,.arr 5 (.int .u8) e)]
abbrev Lc(c:List Int)(e:List Int)(f:Int)(j:Int)(k:Int):List (Nat×Tv.Obj):=[(0,.box [.nils,.nils]),(1,.box [.sl 2,.sl 3]),(2,.arr 21 (.int .i32) c),(3,.arr 5 (.int .u8) e),(4,.box [.i32 f,.i64 j,.i64 k])]
abbrev L3(c:List Int)(e:List Int):List (Nat×Tv.Obj):=[(0,.box [.sl 1,.sl 2]),(1,.arr 21 (.int .i32) c),(2,.arr 5 (.int .u8) e)]
abbrev E5(c:Int)(e:Int)(f:List jd)(j:List jd):List (Nat×Tv.Obj):=[(0,.box [.nils,.nils]),(1,.box [.i64 c,.i64 e]),(2,.box [.sl 3,.sl 4]),(3,.arr 221 wS f),(4,.arr 221 wS j)]
abbrev GF(c:List Int)(e:List Int)(f:List Int):List (Nat×Tv.Obj):=[(0,.arr 126 (.int .u8) c),(1,.arr 3 (.int .i64) e),(2,.arr 3 (.int .i64) f)]
abbrev KE(c:Bool)(e:List (List Int))(f:Bool)(j:List Int)(k:List Int):List (Nat×Tv.Obj):=[(0,.box [.p c (.slice (.slice (.int .i64))) e,.p f (.slice (.int .u32)) j]),(1,.arr 3 (.int .i64) k)]
abbrev KU(c:Bool)(e:List Int)(f:List Bool):List (Nat×Tv.Obj):=[(0,.box [.p c (.slice (.int .i32)) e]),(1,.arr 4 .bool f)]
abbrev JQ(c:List Z2)(e:List Int)(f:Int)(j:Int)(k:Int):List (Nat×Tv.Obj):=[(0,.arr 185 Y9 c),(1,.arr 3 (.int .i64) e),(2,.box [.i32 f,.i64 j,.i64 k])]
abbrev HI(c:List Z2)(e:List Int):List (Nat×Tv.Obj):=[(0,.box [.nils,.nils]),(1,.box [.p false (.slice Y9) c,.sl 2]),(2,.arr 126 (.int .u8) e)]
abbrev Lz(c:Bool)(e:List Z2)(f:Bool)(j:List Int)(k:List Int):List (Nat×Tv.Obj):=[(0,.box [.p c (.slice Y9) e,.p f (.slice (.int .u8)) j]),(1,.arr 5 (.int .u8) k)]
abbrev Ku(c:Bool)(e:List Z2)(f:Bool)(j:List Int):List (Nat×Tv.Obj):=[(0,.box [.p c (.slice Y9) e,.p f (.slice (.int .u8)) j])]
abbrev KR(e:Bool)(f:List Z2)(j:Bool)(k:List Int)(m:Int)(q:Int)(u:Int)(v:Int)(x:Int)(c:Option Nat):List (Nat×Tv.Obj):=[(0,.box [.p e (.slice Y9) f,.p j (.slice (.int .u8)) k]),(1,.box [.i64 m,.i64 q,.u8 u,.i64 v,.i64 x,.p false .flt c])]
abbrev Ig(m:Bool)(q:List Z2)(u:Bool)(v:List Int)(x:Int)(z:Int)(A:Int)(B:Int)(C:Int)(c:Option Nat)(e:Int)(f:Int)(j:Int)(k:Int):List (Nat×Tv.Obj):=[(0,.box [.p m (.slice Y9) q,.p u (.slice (.int .u8)) v]),(1,.box [.i64 x,.i64 z,.u8 A,.i64 B,.i64 C,.p false .flt c]),(2,.box [.i64 e,.i64 f]),(3,.box [.i64 j,.i64 k])]
abbrev Jx(u:Bool)(v:List Z2)(x:Bool)(z:List Int)(A:Int)(B:Int)(C:Int)(D:Int)(E:Int)(c:Option Nat)(e:Int)(f:Int)(j:Int)(k:Int)(m:Int)(q:Int):List (Nat×Tv.Obj):=[(0,.box [.p u (.slice Y9) v,.p x (.slice (.int .u8)) z]),(1,.box [.i64 A,.i64 B,.u8 C,.i64 D,.i64 E,.p false .flt c]),(2,.box [.i64 e,.i64 f]),(3,.box [.i64 j,.i64 k]),(4,.box [.i64 m,.i64 q])]
abbrev LS(c:Int)(e:Int)(f:Int)(j:Int):List (Nat×Tv.Obj):=[(0,.box [.i64 c,.i64 e]),(1,.box [.i64 f,.i64 j])]
abbrev IP(f:Bool)(j:List Z2)(k:Bool)(m:List Int)(q:Int)(u:Int)(v:Int)(x:Int)(z:Int)(c:Option Nat)(e:List (Int×Int)):List (Nat×Tv.Obj):=[(0,.box [.p f (.slice Y9) j,.p k (.slice (.int .u8)) m]),(1,.box [.i64 q,.i64 u,.u8 v,.i64 x,.i64 z,.p false .flt c]),(2,.arr 290 Y2 e)]
abbrev LW(c:Bool)(e:List Z2)(f:Bool)(j:List Int)(k:List Int):List (Nat×Tv.Obj):=[(0,.box [.p c (.slice Y9) e,.p f (.slice (.int .u8)) j]),(1,.arr 3 (.int .i64) k)]
abbrev L6(j:Bool)(k:List Z2)(m:Bool)(q:List Int)(u:Int)(v:Int)(x:Int)(z:Int)(A:Int)(c:Option Nat)(e:List (Int×Int))(f:List Z2):List (Nat×Tv.Obj):=[(0,.box [.p j (.slice Y9) k,.p m (.slice (.int .u8)) q]),(1,.box [.i64 u,.i64 v,.u8 x,.i64 z,.i64 A,.p false .flt c]),(2,.arr 290 Y2 e),(3,.arr 190 Y9 f)]
abbrev BU(m:Bool)(q:List Z2)(u:Bool)(v:List Int)(x:Int)(z:Int)(A:Int)(B:Int)(C:Int)(c:Option Nat)(e:Int)(f:Int)(j:Int)(k:Int):List (Nat×Tv.Obj):=[(0,.box [.p m (.slice Y9) q,.p u (.slice (.int .u8)) v]),(1,.box [.i64 x,.i64 z,.u8 A,.i64 B,.i64 C,.p false .flt c]),(2,.box [.i64 e,.i64 f,.i64 j,.u8 k])]
abbrev Mf(f:Bool)(j:List Z2)(k:Bool)(m:List Int)(q:Int)(u:Int)(v:Int)(x:Int)(z:Int)(c:Option Nat)(e:List Z2):List (Nat×Tv.Obj):=[(0,.box [.p f (.slice Y9) j,.p k (.slice (.int .u8)) m]),(1,.box [.i64 q,.i64 u,.u8 v,.i64 x,.i64 z,.p false .flt c]),(2,.arr 190 Y9 e)]
abbrev Kt(c:List Z2)(e:List Int)(f:List Z2)(j:List Int)(k:List Z2)(m:List (List Int)):List (Nat×Tv.Obj):=[(0,.box [.p false (.slice Y9) c,.p false (.slice (.int .u8)) e]),(1,.box [.p false (.slice Y9) f,.p false (.slice (.int .u8)) j,.p false (.slice Y9) k,.sl 2]),(2,.arr 80 (.slice (.int .i64)) m)]
abbrev KO(c:List Z2)(e:List Int)(f:List Z2)(j:List (List Int)):List (Nat×Tv.Obj):=[(0,.box [.p false (.slice Y9) c,.p false (.slice (.int .u8)) e,.p false (.slice Y9) f,.sl 1]),(1,.arr 80 (.slice (.int .i64)) j)]
abbrev Lh(c:List Z2)(e:List Int)(f:List Z2)(j:List Int)(k:List Z2):List (Nat×Tv.Obj):=[(0,.box [.p false (.slice Y9) c,.p false (.slice (.int .u8)) e]),(1,.box [.p false (.slice Y9) f,.p false (.slice (.int .u8)) j,.p false (.slice Y9) k,.nils])]
abbrev Hp(v:Bool)(x:Option Z1)(z:Int)(B:Int)(C:Int)(D:Int)(E:Int)(I:Option Nat)(J:List Int)(c:List Z2)(e:List Int)(f:Option Z4)(j:List Z9)(k:List Z2)(m:List Z2)(q:List Int)(u:List ((List UInt8)×Bool)):List (Nat×Tv.Obj):=[(0,.box [.sl 2,.bo v,.p false (.ptr u7) x,.i64 z,.i64 B,.u8 C,.i64 D,.i64 E,.p false .flt I,.p false (.slice (.int .u8)) J,.p false (.slice Y9) c,.p false (.slice (.int .u8)) e,.p false (.ptr (.prod eO fO)) f,.mp 1]),(1,.mpo .str F8 j),(2,.arr 190 Y9 k),(3,.box [.p false (.slice Y9) m,.p false (.slice (.int .u8)) q]),(4,.mpo .str .bool u)]
abbrev Lp(z:Bool)(B:Option Z1)(C:Int)(D:Int)(E:Int)(I:Int)(J:Int)(L:Option Nat)(M:List Int)(c:List Z2)(e:List Int)(f:Option Z4)(j:List Z9)(k:List Z2)(m:List Z2)(q:List Int)(u:List ((List UInt8)×Bool))(v:List Z2)(x:Bool):List (Nat×Tv.Obj):=[(0,.box [.sl 2,.bo z,.p false (.ptr u7) B,.i64 C,.i64 D,.u8 E,.i64 I,.i64 J,.p false .flt L,.p false (.slice (.int .u8)) M,.p false (.slice Y9) c,.p false (.slice (.int .u8)) e,.p false (.ptr (.prod eO fO)) f,.mp 1]),(1,.mpo .str F8 j),(2,.arr 190 Y9 k),(3,.box [.p false (.slice Y9) m,.p false (.slice (.int .u8)) q]),(4,.mpo .str .bool u),(5,.box [.p false (.slice Y9) v,.bo x])]
abbrev gh(m:List Z2)(q:Bool)(u:Option Z1)(v:Int)(x:Int)(z:Int)(B:Int)(C:Int)(D:Option Nat)(c:List Int)(e:List Z2)(f:List Int)(j:Option Z4)(k:List Z9):List (Nat×Tv.Obj):=[(0,.box [.p false (.slice Y9) m,.bo q,.p false (.ptr u7) u,.i64 v,.i64 x,.u8 z,.i64 B,.i64 C,.p false .flt D,.p false (.slice (.int .u8)) c,.p false (.slice Y9) e,.p false (.slice (.int .u8)) f,.p false (.ptr (.prod eO fO)) j,.mp 1]),(1,.mpo .str F8 k)]
abbrev Jc:List (Nat×Tv.Obj):=[(0,.mpl (.int .i64) [(0,(Value.agg #[hU 42])),(1,(Value.agg #[hU 43])),(2,(Value.agg #[hU 44])),(3,(Value.agg #[hU 45]))])]
abbrev Lm(c:Int)(e:Int):List (Nat×Tv.Obj):=[(0,.box [.i64 c,.i64 e]),(1,.mpl (.int .i64) [(0,(Value.agg #[hU 42])),(1,(Value.agg #[hU 43])),(2,(Value.agg #[hU 44])),(3,(Value.agg #[hU 45]))])]
abbrev KG(c:Int)(e:Int)(f:Bool)(j:List Int):List (Nat×Tv.Obj):=[(0,.box [.i64 c,.i64 e,.p f (.slice (.int .u8)) j])]
abbrev Ei(c:Bool)(e:List Int)(f:Bool)(j:List Int)(k:Bool)(m:List Int):List (Nat×Tv.Obj):=[(0,.vrow 3 1 [.p c (.slice (.int .u8)) e,.p f (.slice (.int .u8)) j,.p k (.slice (.int .u8)) m])]
abbrev og(z:List Z2)(A:Bool)(B:Option Z1)(C:Int)(D:Int)(E:Int)(I:Int)(J:Int)(L:Option Nat)(c:List Int)(e:List Z2)(f:List Int)(j:Option Z4)(k:List Z9)(m:Int)(q:Int)(u:Int)(v:Int)(x:Bool):List (Nat×Tv.Obj):=[(0,.box [.p false (.slice Y9) z,.bo A,.p false (.ptr u7) B,.i64 C,.i64 D,.u8 E,.i64 I,.i64 J,.p false .flt L,.p false (.slice (.int .u8)) c,.p false (.slice Y9) e,.p false (.slice (.int .u8)) f,.p false (.ptr (.prod eO fO)) j,.mp 1]),(1,.mpo .str F8 k),(2,.box [.i64 m,.i64 q,.i64 u,.i64 v,.nils,.bo x])]
abbrev Kv(c:Bool)(e:List Z2)(f:Bool)(j:List Int)(k:List Z2):List (Nat×Tv.Obj):=[(0,.box [.p c (.slice Y9) e,.p f (.slice (.int .u8)) j]),(1,.arr 128 Y9 k)]
abbrev KN(u:List Z2)(v:Bool)(x:Option Z1)(z:Int)(A:Int)(B:Int)(C:Int)(D:Int)(E:Option Nat)(c:List Int)(e:List Z2)(f:List Int)(j:Option Z4)(k:List Z9)(m:List Z2)(q:Bool):List (Nat×Tv.Obj):=[(0,.box [.p false (.slice Y9) u,.bo v,.p false (.ptr u7) x,.i64 z,.i64 A,.u8 B,.i64 C,.i64 D,.p false .flt E,.p false (.slice (.int .u8)) c,.p false (.slice Y9) e,.p false (.slice (.int .u8)) f,.p false (.ptr (.prod eO fO)) j,.mp 1]),(1,.mpo .str F8 k),(2,.box [.p false (.slice Y9) m,.bo q])]
abbrev Lf(u:List Z2)(v:Bool)(x:Option Z1)(z:Int)(A:Int)(B:Int)(C:Int)(D:Int)(E:Option Nat)(c:List Int)(e:List Z2)(f:List Int)(j:Option Z4)(k:List Z9)(m:Int)(q:Int):List (Nat×Tv.Obj):=[(0,.box [.p false (.slice Y9) u,.bo v,.p false (.ptr u7) x,.i64 z,.i64 A,.u8 B,.i64 C,.i64 D,.p false .flt E,.p false (.slice (.int .u8)) c,.p false (.slice Y9) e,.p false (.slice (.int .u8)) f,.p false (.ptr (.prod eO fO)) j,.mp 1]),(1,.mpo .str F8 k),(2,.box [.i64 m,.i64 q])]
abbrev Jm(c:Int)(e:Int)(f:Int)(j:Int)(k:Int)(m:Int):List (Nat×Tv.Obj):=[(0,.box [.i64 c,.i64 e]),(1,.box [.i64 f,.i64 j,.i64 k,.u8 m])]
abbrev Lk(v:Int)(x:Int)(z:List Z2)(A:Bool)(B:Option Z1)(C:Int)(D:Int)(E:Int)(I:Int)(c:Int)(e:Option Nat)(f:List Int)(j:List Z2)(k:List Int)(m:Option Z4)(q:List Z9)(u:List pP):List (Nat×Tv.Obj):=[(0,.box [.i64 v,.i64 x]),(1,.box [.p false (.slice Y9) z,.bo A,.p false (.ptr u7) B,.i64 C,.i64 D,.u8 E,.i64 I,.i64 c,.p false .flt e,.p false (.slice (.int .u8)) f,.p false (.slice Y9) j,.p false (.slice (.int .u8)) k,.p false (.ptr (.prod eO fO)) m,.mp 2]),(2,.mpo .str F8 q),(3,.mpl (.int .i64) [(0,(Value.agg #[hU 42])),(1,(Value.agg #[hU 43])),(2,(Value.agg #[hU 44])),(3,(Value.agg #[hU 45]))]),(4,.arr 66 (.prod (.int .i64) xQ) u)]
abbrev K7(c:Int)(e:Int)(f:List pP):List (Nat×Tv.Obj):=[(0,.box [.i64 c,.i64 e]),(1,.arr 66 (.prod (.int .i64) xQ) f)]
abbrev Ln(q:List Z3)(u:Int)(v:Int)(x:Int)(z:Int)(A:Int)(B:Int)(C:Int)(D:Int)(c:Option Nat)(e:Int)(f:Bool)(j:Int)(k:Int)(m:List Int):List (Nat×Tv.Obj):=[(0,.arr 61 (.prod (.int .i64) CO) q),(1,.box [.i64 u,.i64 v,.i64 x,.sl 2,.i64 z,.i64 A,.u8 B,.i64 C,.i64 D,.p false .flt c,.i64 e,.bo f,.i64 j,.i64 k]),(2,.arr 5 (.int .u8) m)]
abbrev Jj(c:Bool)(e:List Z2)(f:Bool)(j:Bool)(k:List Z2)(m:Bool):List (Nat×Tv.Obj):=[(0,.box [.p c (.slice Y9) e,.bo f]),(1,.box [.p j (.slice Y9) k,.bo m])]
abbrev KF(c:Int)(e:Int)(f:Int)(j:Int)(k:Int)(m:Option Nat):List (Nat×Tv.Obj):=[(0,.box [.u8 c,.u8 e,.u8 f,.p false (.int .u16) j,.p false (.int .u16) k,.p false .flt m])]
def tb:bR:=[
 (3,⟨some (.int .i64),(.int .i64),1,8,[.i64 0]⟩),
 (4,⟨some .bool,.bool,1,1,[.bo false]⟩),
 (5,⟨some (.int .u8),(.int .u8),1,1,[.u8 0]⟩),
 (9,⟨some .str,.str,1,16,[.st ([]:List UInt8)]⟩),
 (20,⟨none,.other,1,16,[.lit .nilIface]⟩),
 (21,⟨some (.int .i32),(.int .i32),1,4,[.i32 0]⟩),
 (22,⟨some (.slice (.int .u8)),(.sl 5),1,24,[.nils]⟩),
 (28,⟨some (.int .u16),(.int .u16),1,2,[.p false (.int .u16) (0:Int)]⟩),
 (29,⟨some .flt,.flt,1,8,[.p false .flt (dw 0)]⟩),
 (31,⟨some MG,(.st [(0,5),(1,5),(2,5),(3,28),(4,28),(5,29)]),6,16,[.u8 0,.u8 0,.u8 0,.p false (.int .u16) (0:Int),.p false (.int .u16) (0:Int),.p false .flt (dw 0)]⟩),
 (32,⟨some (.slice (.prod (.int .i64) CO)),(.sl 61),1,24,[.nils]⟩),
 (35,⟨some (.int .u8),(.int .u8),1,1,[.u8 0]⟩),
 (37,⟨some KM,(.st [(0,3),(1,3),(2,35),(3,3),(4,3),(5,29)]),6,48,[.i64 0,.i64 0,.u8 0,.i64 0,.i64 0,.p false .flt (dw 0)]⟩),
 (39,⟨some (.slice (.prod (.int .i32) Y1)),(.sl 87),1,24,[.nils]⟩),
 (41,⟨some Y7,(.st [(0,39),(1,39),(2,39),(3,39),(4,9),(5,9),(6,9),(7,3),(8,3)]),9,160,[.nils,.nils,.nils,.nils,.st ([]:List UInt8),.st ([]:List UInt8),.st ([]:List UInt8),.i64 0,.i64 0]⟩),
 (44,⟨some (.slice (.prod (.int .i64) xQ)),(.sl 66),1,24,[.nils]⟩),
 (45,⟨some (.int .i64),(.int .i64),1,8,[.i64 0]⟩),
 (47,⟨some Y2,(.st [(0,45),(1,3)]),2,16,[.i64 0,.i64 0]⟩),
 (50,⟨some (.ptr u7),.other,1,8,[.nilp]⟩),
 (53,⟨none,.other,1,8,[.nilp]⟩),
 (57,⟨some (.prod (.int .i64) Mq),(.st [(0,3),(1,3),(2,22)]),3,40,[.i64 0,.i64 0,.nils]⟩),
 (59,⟨some Y2,(.st [(0,3),(1,3)]),2,16,[.i64 0,.i64 0]⟩),
 (61,⟨some (.prod (.int .i64) CO),(.st [(0,3),(1,57),(4,37),(10,3),(11,4),(12,59)]),14,128,[.i64 0,.i64 0,.i64 0,.nils,.i64 0,.i64 0,.u8 0,.i64 0,.i64 0,.p false .flt (dw 0),.i64 0,.bo false,.i64 0,.i64 0]⟩),
 (62,⟨some (.slice Y9),(.sl 128),1,24,[.nils]⟩),
 (64,⟨some F8,(.st [(0,62),(1,4)]),2,32,[.nils,.bo false]⟩),
 (66,⟨some (.prod (.int .i64) xQ),(.st [(0,45),(1,59),(3,3),(4,64)]),6,64,[.i64 0,.i64 0,.i64 0,.i64 0,.nils,.bo false]⟩),
 (77,⟨some (.int .u64),(.int .u64),1,8,[.u64 0]⟩),
 (80,⟨some (.slice (.int .i64)),(.sl 3),1,24,[.nils]⟩),
 (82,⟨some (.slice .str),(.sl 9),1,24,[.nils]⟩),
 (87,⟨some (.prod (.int .i32) Y1),(.st [(0,21),(1,21),(2,3)]),3,16,[.i32 0,.i32 0,.i64 0]⟩),
 (90,⟨none,(.mp 3 94),1,8,[.lit (.map none)]⟩),
 (92,⟨none,.other,1,8,[.lit .nilFunc]⟩),
 (94,⟨none,(.st [(0,92)]),1,8,[.lit .nilFunc]⟩),
 (96,⟨none,.other,1,8,[.nilp]⟩),
 (97,⟨some (.ptr mw),.other,1,8,[.nilp]⟩),
 (98,⟨some (.ptr xn),.other,1,8,[.nilp]⟩),
 (99,⟨some (.ptr nm),.other,1,8,[.nilp]⟩),
 (101,⟨some u7,(.st [(0,97),(1,97),(2,98),(3,98),(4,98),(5,99)]),6,48,[.nilp,.nilp,.nilp,.nilp,.nilp,.nilp]⟩),
 (104,⟨none,.other,1,8,[.nilp]⟩),
 (105,⟨none,(.st [(0,104),(1,39),(2,3)]),3,40,[.nilp,.nils,.i64 0]⟩),
 (106,⟨none,(.sl 105),1,24,[.nils]⟩),
 (111,⟨none,(.mp 9 114),1,8,[.lit (.map none)]⟩),
 (112,⟨some (.slice Y9),(.sl 190),1,24,[.nils]⟩),
 (114,⟨some F8,(.st [(0,112),(1,4)]),2,32,[.nils,.bo false]⟩),
 (115,⟨some (.slice Y9),(.sl 185),1,24,[.nils]⟩),
 (116,⟨some (.slice (.int .u8)),(.sl 126),1,24,[.nils]⟩),
 (118,⟨some eO,(.st [(0,115),(1,116)]),2,48,[.nils,.nils]⟩),
 (119,⟨some (.ptr (.prod eO fO)),.other,1,8,[.nilp]⟩),
 (121,⟨none,(.st [(0,114),(2,50),(3,37),(9,22),(10,118),(12,119),(13,111)]),14,176,[.nils,.bo false,.nilp,.i64 0,.i64 0,.u8 0,.i64 0,.i64 0,.p false .flt (dw 0),.nils,.nils,.nils,.nilp,.lit (.map none)]⟩),
 (126,⟨some (.int .u8),(.int .u8),1,1,[.u8 0]⟩),
 (128,⟨some Y9,(.st [(0,3),(1,3),(2,3),(3,126)]),4,32,[.i64 0,.i64 0,.i64 0,.u8 0]⟩),
 (130,⟨some (.slice (.int .i32)),(.sl 21),1,24,[.nils]⟩),
 (136,⟨some (.int .u32),(.int .u32),1,4,[.u32 0]⟩),
 (137,⟨some (.slice (.prod (.int .u8) Cq)),(.sl 210),1,24,[.nils]⟩),
 (139,⟨some JR,(.st [(0,82),(1,136),(2,136),(3,80),(4,137)]),5,80,[.nils,.u32 0,.u32 0,.nils,.nils]⟩),
 (144,⟨some (.slice (.slice (.int .i64))),(.sl 80),1,24,[.nils]⟩),
 (145,⟨some (.slice (.int .u32)),(.sl 136),1,24,[.nils]⟩),
 (147,⟨some CP,(.st [(0,144),(1,145)]),2,48,[.nils,.nils]⟩),
 (149,⟨some mw,(.st [(0,139),(5,147),(7,147)]),9,176,[.nils,.u32 0,.u32 0,.nils,.nils,.nils,.nils,.nils,.nils]⟩),
 (151,⟨some (.slice (.arr .u8 256)),(.sl 157),1,24,[.nils]⟩),
 (152,⟨some (.arr .i64 4352),(.ar 4352 3),4352,34816,(List.replicate 4352 (.i64 0))⟩),
 (154,⟨some xn,(.st [(0,152),(4352,151)]),4353,34840,(List.replicate 4352 (.i64 0)++[.nils])⟩),
 (155,⟨none,(.mp 157 3),1,8,[.lit (.map none)]⟩),
 (157,⟨some (.arr .u8 256),(.ar 256 5),256,256,(List.replicate 256 (.u8 0))⟩),
 (160,⟨some (.slice wS),(.sl 221),1,24,[.nils]⟩),
 (162,⟨some IF,(.st [(0,160),(1,160)]),2,48,[.nils,.nils]⟩),
 (166,⟨some (.ptr tZ),.other,1,8,[.nilp]⟩),
 (169,⟨some nm,(.st [(0,39),(1,166),(2,160),(3,3),(4,3)]),5,72,[.nils,.nilp,.nils,.i64 0,.i64 0]⟩),
 (172,⟨none,(.mp 9 4),1,8,[.lit (.map none)]⟩),
 (183,⟨some (.int .u8),(.int .u8),1,1,[.u8 0]⟩),
 (185,⟨some Y9,(.st [(0,3),(1,3),(2,3),(3,183)]),4,32,[.i64 0,.i64 0,.i64 0,.u8 0]⟩),
 (187,⟨some (.prod eO fO),(.st [(0,118),(2,112),(3,144)]),4,96,[.nils,.nils,.nils,.nils]⟩),
 (188,⟨none,.other,1,8,[.lit .nilFunc]⟩),
 (190,⟨some Y9,(.st [(0,3),(1,3),(2,3),(3,126)]),4,32,[.i64 0,.i64 0,.i64 0,.u8 0]⟩),
 (191,⟨none,.other,1,8,[.lit .nilFunc]⟩),
 (193,⟨none,.other,1,8,[.lit .nilFunc]⟩),
 (199,⟨none,.other,1,8,[.nilp]⟩),
 (200,⟨none,(.mp 9 136),1,8,[.lit (.map none)]⟩),
 (202,⟨none,(.st [(0,9),(1,3),(2,139),(7,200),(8,3),(9,3)]),10,128,[.st ([]:List UInt8),.i64 0,.nils,.u32 0,.u32 0,.nils,.nils,.lit (.map none),.i64 0,.i64 0]⟩),
 (205,⟨some (.slice (.tree .u8 .u32)),(.sl 208),1,24,[.nils]⟩),
 (206,⟨some (.int .u8),(.int .u8),1,1,[.u8 0]⟩),
 (208,⟨some (.tree .u8 .u32),(.st [(0,206),(1,136),(2,205)]),3,32,[.u8 0,.u32 0,.nils]⟩),
 (210,⟨some (.prod (.int .u8) Cq),(.st [(0,126),(1,208),(4,208)]),7,72,[.u8 0,.u8 0,.u32 0,.nils,.u8 0,.u32 0,.nils]⟩),
 (215,⟨some (.slice (.prod (.int .i32) Y2)),(.sl 219),1,24,[.nils]⟩),
 (219,⟨some (.prod (.int .i32) Y2),(.st [(0,21),(1,3),(2,3)]),3,24,[.i32 0,.i64 0,.i64 0]⟩),
 (221,⟨some wS,(.st [(0,130),(1,22)]),2,48,[.nils,.nils]⟩),
 (227,⟨none,.other,1,8,[.lit .nilFunc]⟩),
 (228,⟨some (.slice KL),(.sl 233),1,24,[.nils]⟩),
 (230,⟨some tZ,(.st [(0,228)]),1,24,[.nils]⟩),
 (231,⟨some (.mapi .i32 .i64),(.mp 21 3),1,8,[.lit (.map none)]⟩),
 (233,⟨some KL,(.st [(0,231),(1,22)]),2,32,[.lit (.map none),.nils]⟩),
 (238,⟨some (.slice .bool),(.sl 4),1,24,[.nils]⟩),
 (243,⟨some (.slice (.slice (.int .u8))),(.sl 22),1,24,[.nils]⟩),
 (246,⟨none,.other,1,8,[.lit .nilFunc]⟩),
 (247,⟨none,(.mp 9 246),1,8,[.lit (.map none)]⟩),
 (248,⟨none,(.mp 9 126),1,8,[.lit (.map none)]⟩),
 (255,⟨none,.other,1,8,[.nilp]⟩),
 (256,⟨some (.slice l0),(.sl 262),1,24,[.nils]⟩),
 (258,⟨some MH,(.st [(0,145),(1,256),(2,4)]),3,56,[.nils,.nils,.bo false]⟩),
 (259,⟨some (.slice BX),(.sl 264),1,24,[.nils]⟩),
 (260,⟨some (.int .u64),(.int .u64),1,8,[.u64 0]⟩),
 (262,⟨some l0,(.ar 4 260),4,32,[.u64 0,.u64 0,.u64 0,.u64 0]⟩),
 (264,⟨some BX,(.st [(0,4),(1,262),(5,262)]),9,72,[.bo false,.u64 0,.u64 0,.u64 0,.u64 0,.u64 0,.u64 0,.u64 0,.u64 0]⟩),
 (267,⟨none,(.mp 262 3),1,8,[.lit (.map none)]⟩),
 (272,⟨none,.other,1,8,[.lit .nilFunc]⟩),
 (277,⟨none,.other,1,8,[.lit .nilFunc]⟩),
 (288,⟨some (.slice Y2),(.sl 290),1,24,[.nils]⟩),
 (290,⟨some Y2,(.st [(0,3),(1,3)]),2,16,[.i64 0,.i64 0]⟩),
 (303,⟨none,(.mp 9 3),1,8,[.lit (.map none)]⟩),
 (323,⟨some (.prod (.int .u8) Mz),(.ar 7 5),7,7,[.u8 0,.u8 0,.u8 0,.u8 0,.u8 0,.u8 0,.u8 0]⟩)]
theorem gS:bS Tryz.prog tb:=Ju (by kernel_rfl) (by kernel_rfl) (by kernel_rfl)
theorem LO:HY Tryz.prog 37 KM:=zP 8 (by decide) (by kernel_rfl) ⟨by kernel_rfl,rfl⟩
theorem IH:HY Tryz.prog 59 Y2:=zP 8 (by decide) (by kernel_rfl) ⟨by kernel_rfl,rfl⟩
theorem Kx:HY Tryz.prog 128 Y9:=zP 8 (by decide) (by kernel_rfl) ⟨by kernel_rfl,rfl⟩
theorem DJ:fP Tryz.prog 157 (.arr .u8 256):=fP.EE (e:=5) rfl rfl rfl (by kernel_rfl) rfl rfl rfl
theorem zI:fP Tryz.prog 262 l0:=fP.EE (e:=260) rfl rfl rfl (by kernel_rfl) rfl rfl rfl
theorem mixed:Tryz.prog.follows .mixedOrders=true:=by kernel_rfl
theorem PB{fid:FuncId}{fn:Func}{c:Code}(p:Tryz.prog.funcs[fid]? = some fn){args:List ag}{f:List (Σ T:Ty,T.den)}(h:∀Bw w0,W Tryz.prog fn.ntmps Bw w0 c (nq args) (Ko tb fn.results.toList f))(j:(fn.name == "runtime.NumGoroutine")=false:=by kernel_rfl)(hb:fn.body=some c:=by exact rfl)(k:Nat.ble args.length fn.ntmps=true:=by exact rfl)(m:ou args=true:=by exact rfl):Pure Tryz.prog fid args (aG (aU false f)):=Pure.jD gS p j hb (nl k) h m
theorem OB{fid:FuncId}{fn:Func}{c:Code}(k:Tryz.prog.funcs[fid]? = some fn){args:List ag}{hin hout:List (Nat×Tv.Obj)}{r:ag}(h:∀Bw w0,W Tryz.prog fn.ntmps Bw w0 c (rR args hin) (xU tb fn.ntmps fn.results.toList r hout))(f:(fn.name == "runtime.NumGoroutine")=false:=by kernel_rfl)(hb:fn.body=some c:=by exact rfl)(j:Nat.ble args.length fn.ntmps=true:=by exact rfl):ff Tryz.prog fid args hin r hout:=ff.jD gS k f hb (nl j) h
theorem DB{fid:FuncId}{fn:Func}{c:Code}(k:Tryz.prog.funcs[fid]? = some fn){args:List ag}{hin:List (Nat×Tv.Obj)}{f:(ag×List (Nat×Tv.Obj))⊕Value}(h:∀Bw w0,W Tryz.prog fn.ntmps Bw w0 c (rR args hin) (K8 tb fn.ntmps fn.results.toList f))(e:(fn.name == "runtime.NumGoroutine")=false:=by kernel_rfl)(hb:fn.body=some c:=by exact rfl)(j:Nat.ble args.length fn.ntmps=true:=by exact rfl):iO Tryz.prog fid args hin f:=iO.jD gS k e hb (nl j) h
theorem RO{n:NS}{σ:St}{j:List ResultVar}{r:ag}{hout:List (Nat×Tv.Obj)}(Ts:List (Option Ty))(k:List Tv.G)(f:List Nat)(l:List (Nat×ag))(m:List (Nat×Tv.Obj))(nx pn:Nat)(q:goal k f l m σ=some (want f l m):=by kernel_rfl)(c:(σ.pn == pn && kA (Gt f) l m nx pn)=true:=by kernel_rfl)(u:IC tb j Ts hout (ay l m nx pn)=some (r,hout.map (fun p=>some p.2)):=by kernel_rfl):xU tb n j r hout .ret σ:=C8 Ts k f l m nx pn q c u
theorem RI{σ:St}{f:List ResultVar}{c:List (Σ T:Ty,T.den)}(Ts:List Ty)(h:(match tv tb σ.s σ.h f with | some xs=>lZ σ.h xs Ts | none=>none)=some c:=by kernel_rfl):Ko tb f c .ret σ:=EY Ts h
section
variable{n:NS}{Bw:Nat→Prop}{w0:b9 Tryz.prog}{σ:St}{Q:Exit→St→Prop}{id:Nat}{ops:Array Oper}{d:Code}{fid:FuncId}{args:List ag}{hin hout:List (Nat×Tv.Obj)}{r:ag}{y:Value}
theorem Ge(c:∀σ',Le n σ' (ir Tryz.prog tb a0 n ops σ)→Q .normal σ')(h:iz Tryz.prog tb a0 n ops σ=some (cP ops.size 0 []):=by kernel_rfl):W Tryz.prog n Bw w0 (.region id ops false) σ Q:=GR gS a0 [] h c
theorem bq(an:An)(c:List (Nat×Nat×PP))(e:∀σ',Le n σ' (ir Tryz.prog tb an n ops σ)→Q .normal σ')(h:iz Tryz.prog tb an n ops σ=some (cP ops.size 0 c):=by kernel_rfl):W Tryz.prog n Bw w0 (.region id ops false) σ Q:=GR gS an c h e
theorem jC(an:An)(c:List (Nat×Nat×PP))(e:∀σ',Le n σ' (Bx Tryz.prog tb an n ops σ)→Q .normal σ')(h:Cw Tryz.prog tb an n ops σ=some (cP ops.size 0 c):=by kernel_rfl):W Tryz.prog n Bw w0 (.region id ops true) σ Q:=KD gS mixed an c h e
theorem tq(i:Nat){α:Type}{p:Prop}[Decidable p]{u:Option α}{v:α}(h:(if p then u else none)=some v)(c:u=some v→∀σ',Le n σ' (ir Tryz.prog tb a0 n ops σ)→Q .normal σ')(e:iz Tryz.prog tb a0 n ops σ=some (cG ops.size i p):=by kernel_rfl):W Tryz.prog n Bw w0 (.region id ops false) σ Q:=Jd gS i h e c
theorem Lw(i:Nat)(u:Pure Tryz.prog fid args r)(c:∀σ',Le n σ' (ir Tryz.prog tb ⟨[],[(i,oP u)]⟩ n ops σ)→Q .normal σ')(h:iz Tryz.prog tb ⟨[],[(i,oP u)]⟩ n ops σ=some (cP ops.size 0 [(i,i,oc u)]):=by kernel_rfl):W Tryz.prog n Bw w0 (.region id ops false) σ Q:=KS gS i u h c
theorem kO(i:Nat)(g:List Nat)(u:ff Tryz.prog fid args hin r hout)(c:∀σ',Le n σ' (ir Tryz.prog tb ⟨[],[(i,oO u g)]⟩ n ops σ)→Q .normal σ')(h:iz Tryz.prog tb ⟨[],[(i,oO u g)]⟩ n ops σ=some (cP ops.size 0 [(i,i,oc u)]):=by kernel_rfl):W Tryz.prog n Bw w0 (.region id ops false) σ Q:=KP gS i g u h c
theorem G(c:W Tryz.prog n Bw w0 d (ir Tryz.prog tb a0 n ops σ) Q)(h:iz Tryz.prog tb a0 n ops σ=some (cP ops.size 0 []):=by kernel_rfl):W Tryz.prog n Bw w0 (.seq (.region id ops false) d) σ Q:=Lv gS a0 [] h c
theorem GN(an:An)(c:List (Nat×Nat×PP))(e:W Tryz.prog n Bw w0 d (ir Tryz.prog tb an n ops σ) Q)(h:iz Tryz.prog tb an n ops σ=some (cP ops.size 0 c):=by kernel_rfl):W Tryz.prog n Bw w0 (.seq (.region id ops false) d) σ Q:=Lv gS an c h e
theorem GD(an:An)(c:List (Nat×Nat×PP))(e:W Tryz.prog n Bw w0 d (Bx Tryz.prog tb an n ops σ) Q)(h:Cw Tryz.prog tb an n ops σ=some (cP ops.size 0 c):=by kernel_rfl):W Tryz.prog n Bw w0 (.seq (.region id ops true) d) σ Q:=MC gS mixed an c h e
theorem GC(i:Nat){α:Type}{p:Prop}[Decidable p]{u:Option α}{v:α}(h:(if p then u else none)=some v)(c:u=some v→W Tryz.prog n Bw w0 d (ir Tryz.prog tb a0 n ops σ) Q)(f:iz Tryz.prog tb a0 n ops σ=some (cG ops.size i p):=by kernel_rfl):W Tryz.prog n Bw w0 (.seq (.region id ops false) d) σ Q:=Mh gS i h f c
theorem GP(i:Nat)(u:Pure Tryz.prog fid args r)(c:W Tryz.prog n Bw w0 d (ir Tryz.prog tb ⟨[],[(i,oP u)]⟩ n ops σ) Q)(h:iz Tryz.prog tb ⟨[],[(i,oP u)]⟩ n ops σ=some (cP ops.size 0 [(i,i,oc u)]):=by kernel_rfl):W Tryz.prog n Bw w0 (.seq (.region id ops false) d) σ Q:=LA gS i u h c
theorem GO(i:Nat)(g:List Nat)(u:ff Tryz.prog fid args hin r hout)(c:W Tryz.prog n Bw w0 d (ir Tryz.prog tb ⟨[],[(i,oO u g)]⟩ n ops σ) Q)(h:iz Tryz.prog tb ⟨[],[(i,oO u g)]⟩ n ops σ=some (cP ops.size 0 [(i,i,oc u)]):=by kernel_rfl):W Tryz.prog n Bw w0 (.seq (.region id ops false) d) σ Q:=L1 gS i g u h c
theorem GX(i:Nat)(g:List Nat)(u:jP Tryz.prog fid args hin y)(c:∀σ',Q (.panic [{ v:=y,recovered:=false }]) σ')(h:Bq Tryz.prog tb ⟨[],[(i,oD u g)]⟩ n ops i σ=some (cP (i+1) 0 [(i,i,oc u)],y):=by kernel_rfl):W Tryz.prog n Bw w0 (.region id ops false) σ Q:=Ma gS i g u h c
theorem MK(u:jP Tryz.prog fid args hin y)(an:An)(i:Nat)(c:List (Nat×Nat×PP))(e:∀σ',Q (.panic [{ v:=y,recovered:=false }]) σ')(h:Bq Tryz.prog tb an n ops i σ=some (cP (i+1) 0 c,y):=by kernel_rfl):W Tryz.prog n Bw w0 (.region id ops false) σ Q:=Ml gS u an i c h e
end
end
end Go.Proofs.YtmcemnfjddoejaaGreatDoor.T
