import Derived.Test.YtobbjfkfmdiklaaGreatDoorTvSdm
import Derived.Maps.RangeRun
namespace Go.Tv
open Go Go.RowKit
open Go.MapKept (run_setObj_map heap_set)
open Go.ChangeMaps (setBlock)
section
variable{P:Program}{tb:bT}{n:NS}{Bw:Nat→Prop}{w0:cC P}{ρ:Nat→QW}{φ:Nat→Nat→Prop}{h:Nat→Qz}{s:Nat→ag}{a:Act}{w:World}{o:Oper}
variable{F:Bool→Addr→Value→Prop}
end
section
variable{P:Program}{tb:bT}{n:NS}{Bw:Nat→Prop}{w0:cC P}{ρ:Nat→QW}{φ:Nat→Nat→Prop}{h:Nat→Qz}{s:Nat→ag}{a:Act}{w:World}
end
end Go.Tv
