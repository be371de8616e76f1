/-
  DERIVED. GIVEN WITH THE SEED: THE CARDS: each row of YtgkdnnklcbacmaaDoorRows.lean that lists a variable, with what it lists TIED to the program's text (the seventh form; the later family's looks); each row that meets fmt, with fmt's text TOLD by the authors' own Lean function (tested against real Go, not proved from fmt's source: count such statements apart). THE CARD IS WHAT COUNTS. Prove the row's statement (the work); the ties are given (YtgkdnnklcbacmaaDoorTie.lean); close each card by the builder's one call (the guide's Derived/Test/ToyasCard.lean, 'card_holds'). Laid BY PROGRAM, IN A SANDBOX (cutbox-door.mjs). By AI agents, Wed Nov 11 2026. No macro, syntax, notation, axiom, sorry.
-/
import Derived.Test.YtgkdnnklcbacmaaDoorRows
import GoSem.ClaimSeven
namespace Go.Proofs.YtgkdnnklcbacmaaDoor
namespace Rows

/-- THE TIED CARD OF 'depotlaw25.ShellWords'. -/
def shellWordsCard : Claim7 := { stood := { row := shellWordsRow, standIns := [], harness := (true, "6a709aa1779fa1bdb9787a7d619d33c3d43445fcae4342013505a49006c73fdb"), looks := false }, kinds := [], alts := [], laidByText := true, laidKinds := [.data, .pinned], laidTests := true, laidLooks := .later }
def ShellWordsCardSaid : Prop := Claim7.holds Tryd.pinned (.plain (OpenSpec.ofChange shellWordsSpec)) shellWordsCard

/-- THE TIED CARD OF 'depotlaw25.ShellBack'. -/
def shellBackCard : Claim7 := { stood := { row := shellBackRow, standIns := [], harness := (true, "6a709aa1779fa1bdb9787a7d619d33c3d43445fcae4342013505a49006c73fdb"), looks := false }, kinds := [], alts := [], laidByText := true, laidKinds := [.data, .pinned], laidTests := true, laidLooks := .later }
def ShellBackCardSaid : Prop := Claim7.holds Tryd.pinned (.plain (OpenSpec.ofChange shellBackSpec)) shellBackCard

/-- THE SECOND FORM's CARD OF 'depotlaw25.ShellWords'. -/
def shellWordsUptoCard : Claim7 := { stood := { row := shellWordsUptoRow, standIns := [], harness := (true, "6a709aa1779fa1bdb9787a7d619d33c3d43445fcae4342013505a49006c73fdb"), looks := false }, kinds := [], alts := [], laidByText := true, laidKinds := [.data, .pinned], laidTests := true, laidLooks := .later }
def ShellWordsUptoCardSaid : Prop := Claim7.holds Tryd.pinned (.plain (OpenSpec.upto shellWordsSpec)) shellWordsUptoCard

/-- THE SECOND FORM's CARD OF 'depotlaw25.ShellBack'. -/
def shellBackUptoCard : Claim7 := { stood := { row := shellBackUptoRow, standIns := [], harness := (true, "6a709aa1779fa1bdb9787a7d619d33c3d43445fcae4342013505a49006c73fdb"), looks := false }, kinds := [], alts := [], laidByText := true, laidKinds := [.data, .pinned], laidTests := true, laidLooks := .later }
def ShellBackUptoCardSaid : Prop := Claim7.holds Tryd.pinned (.plain (OpenSpec.upto shellBackSpec)) shellBackUptoCard
end Rows
end Go.Proofs.YtgkdnnklcbacmaaDoor
