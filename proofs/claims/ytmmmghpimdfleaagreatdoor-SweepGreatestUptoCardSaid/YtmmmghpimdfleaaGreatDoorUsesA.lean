/-
  A list of uses as an argument of a law.
-/
import Derived.Test.YtmmmghpimdfleaaGreatDoorGrpZB
set_option linter.unusedVariables false
set_option linter.unusedSimpArgs false
set_option maxRecDepth 20000
namespace Go.Proofs.YtmmmghpimdfleaaGreatDoor.Op
open Go.ChangeShapes Go.WideShapes Go.ChangeAt Go.RowKit Mem Tr
open Go.Proofs.YtmmmghpimdfleaaGreatDoor.Swp (Uses)
section
variable {H : Type} {enc : TypeId × Value → H} {w : World} {spare : Nat → Bool} {held : Bool}
theorem arg_uses {base : Nat} {v : Value} {d : DataW H} {ps : List MemPlace} (hv : Value.okWide Tryz.prog w .any base 72 v) (h : DataW.Trod enc Tryz.prog w 0 spare held 72 v d ps) :
    ∃ l, (Uses (Old w) w v l ∧ ∀ x ∈ l, x.2 < 9223372036854775808) ∧ bulkU l + 1 ≤ Rows.uptoBulk d := by
  obtain ⟨a, n, c, rfl⟩ := okWide_slice Tryz.underlying72 hv
  obtain ⟨fuel, hf⟩ := h
  rw [cells_slice] at hf
  obtain ⟨v', l, e, h1, h2, h3⟩ := open_uses hf
  obtain rfl := one_of e
  exact ⟨l, ⟨h1, h2⟩, h3⟩
end
end Go.Proofs.YtmmmghpimdfleaaGreatDoor.Op
