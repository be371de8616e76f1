/-
  container/heap over store.least: the methods, up, down, Push, Pop.
  container/heap over store.least: Pop of the interface; heap.Push, heap.Pop.
  The heap's law over plain lists: what up and down leave is a heap, with the same elements; the first is the least.
-/
import Derived.Test.YtmmmghpimdfleaaGreatDoorGrpR
import Derived.Handy
import Derived.BigQuiet
import Derived.Laws.OwnMore
import Derived.Deep.RegionLaw
import Derived.Deep.AppendLies
set_option linter.unusedVariables false
set_option linter.unusedSimpArgs false
namespace Go.Proofs.YtmmmghpimdfleaaGreatDoor
namespace Hp
open Go.RowKit Mem Tr
open Go.Proofs.YtmmmghpimdfleaaGreatDoor.Own
open Go.Proofs.YtmmmghpimdfleaaGreatDoor.Tab (dw aN iI)
end Hp

namespace Hp
open Go.RowKit Mem Tr
open Go.Proofs.YtmmmghpimdfleaaGreatDoor.Own
open Go.Proofs.YtmmmghpimdfleaaGreatDoor.Tab (dw aN iI)
end Hp

namespace Hp
open Go.Proofs.YtmmmghpimdfleaaGreatDoor
end Hp
end Go.Proofs.YtmmmghpimdfleaaGreatDoor
