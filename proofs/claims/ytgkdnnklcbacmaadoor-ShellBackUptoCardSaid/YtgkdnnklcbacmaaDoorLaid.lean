/-
  A world in which the listed variables hold what the program's text lays: for the witness.
-/
import Derived.Test.YtgkdnnklcbacmaaDoorRows
import Derived.Deep.DeepHandedRow
import Derived.ProofKit
import Derived.LaidLaws
namespace Go.Proofs.YtgkdnnklcbacmaaDoor.Laid
open Go.ChangeShapes Go.WideShapes Go.ChangeAt Go.RowKit
mutual
def flat : DataW Unit → List Value
  | .lit (.int k n) => [.int k n]
  | .agg parts => flats parts
  | _ => []
def flats : List (DataW Unit) → List Value
  | [] => []
  | d :: r => flat d ++ flats r
end
/-- the settled world, block b holding the cells cs -/
def lay (cs : Array Value) : Obj → Obj
  | .cells _ t frozen => .cells cs t frozen
  | o => o
noncomputable def world (os : Os) : World :=
  { World.holding Tryd.prog os ⟨#[], #[], []⟩ with heap := ((World.holding Tryd.prog os ⟨#[], #[], []⟩).heap.modify 0 (lay (flat Rows.laid_unicode_utf8_first).toArray)).modify 1 (lay (flat Rows.laid_unicode_utf8_acceptRanges).toArray) }
theorem met (os : Os) (args : Array Value) : laidMet Tryd.prog Rows.shellWordsUptoRow.laid ((world os).forCall (fun _ _ => 0) ⟨#[], args, []⟩).memory :=
  laidMet_of_run' 8 (by kernel_rfl) (by kernel_rfl)
end Go.Proofs.YtgkdnnklcbacmaaDoor.Laid
