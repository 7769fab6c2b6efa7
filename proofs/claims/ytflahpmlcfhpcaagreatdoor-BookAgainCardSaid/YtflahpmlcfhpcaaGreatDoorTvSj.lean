import Derived.Test.YtflahpmlcfhpcaaGreatDoorTvSdm
import Derived.Maps.RangeRun
namespace Go.Tv
open Go Go.RowKit
open Go.MapKept (run_setObj_map heap_set)
open Go.ChangeMaps (setBlock)
def DS{A B:Type}(f:A→ag×Qw)(g:B→ag×Qw):A⊕B→ag×Qw
 | .inl x=>f x
 | .inr x=>g x
section
variable{P:Program}{tb:bU}{n:NS}{Bw:Nat→Prop}{w0:cw P}{ρ:Nat→QW}{φ:Nat→Nat→Prop}{h:Nat→Qz}{s:Nat→ag}{a:Act}{w:World}{o:Oper}
variable{F:Bool→Addr→Value→Prop}
end
section
variable{P:Program}{tb:bU}{n:NS}{Bw:Nat→Prop}{w0:cw P}{ρ:Nat→QW}{φ:Nat→Nat→Prop}{h:Nat→Qz}{s:Nat→ag}{a:Act}{w:World}
end
end Go.Tv
