/-
  DERIVED. GIVEN WITH THE SEED: THE CARDS: each row of YtmmmghpimdfleaaGreatDoorRows.lean that lists a variable, with what it lists TIED to the program's text (the seventh form; the later family's looks); each row that meets fmt, with fmt's text TOLD by the authors' own Lean function (tested against real Go, not proved from fmt's source: count such statements apart). THE CARD IS WHAT COUNTS. Prove the row's statement (the work); the ties are given (YtmmmghpimdfleaaGreatDoorTie.lean); close each card by the builder's one call (the guide's Derived/Test/ToyasCard.lean, 'card_holds'). Laid BY PROGRAM, IN A SANDBOX (cutbox-door.mjs). By AI agents, Wed Nov 11 2026. No macro, syntax, notation, axiom, sorry.
-/
import Derived.Test.YtmmmghpimdfleaaGreatDoorRows
import GoSem.ClaimSeven
namespace Go.Proofs.YtmmmghpimdfleaaGreatDoor
namespace Rows

/-- THE TIED CARD OF 'depotlaw17.StoreAdds'. -/
def storeAddsCard : Claim7 := { stood := { row := storeAddsRow, standIns := [], harness := (true, "39e81bf50d5d3610275a4ba3d83a89deb643cdf38b17ce6e4502e68b60f51717"), looks := true }, kinds := [], alts := [], laidByText := true, laidKinds := [.data, .data], laidTests := true, laidLooks := .later }
def StoreAddsCardSaid : Prop := Claim7.holds Tryz.pinned (.plain (OpenSpec.ofChange storeAddsSpec)) storeAddsCard

/-- THE TIED CARD OF 'depotlaw17.StoreOffers'. -/
def storeOffersCard : Claim7 := { stood := { row := storeOffersRow, standIns := [], harness := (true, "39e81bf50d5d3610275a4ba3d83a89deb643cdf38b17ce6e4502e68b60f51717"), looks := true }, kinds := [], alts := [], laidByText := true, laidKinds := [.data, .data], laidTests := true, laidLooks := .later }
def StoreOffersCardSaid : Prop := Claim7.holds Tryz.pinned (.plain (OpenSpec.ofChange storeOffersSpec)) storeOffersCard

/-- THE TIED CARD OF 'depotlaw17.StoreClosed'. -/
def storeClosedCard : Claim7 := { stood := { row := storeClosedRow, standIns := [], harness := (true, "39e81bf50d5d3610275a4ba3d83a89deb643cdf38b17ce6e4502e68b60f51717"), looks := true }, kinds := [], alts := [], laidByText := true, laidKinds := [.data, .data], laidTests := true, laidLooks := .later }
def StoreClosedCardSaid : Prop := Claim7.holds Tryz.pinned (.plain (OpenSpec.ofChange storeClosedSpec)) storeClosedCard

/-- THE TIED CARD OF 'depotlaw17.StoreBack'. -/
def storeBackCard : Claim7 := { stood := { row := storeBackRow, standIns := [], harness := (true, "39e81bf50d5d3610275a4ba3d83a89deb643cdf38b17ce6e4502e68b60f51717"), looks := true }, kinds := [], alts := [], laidByText := true, laidKinds := [.data, .data], laidTests := true, laidLooks := .later }
def StoreBackCardSaid : Prop := Claim7.holds Tryz.pinned (.plain (OpenSpec.ofChange storeBackSpec)) storeBackCard

/-- THE TIED CARD OF 'depotlaw17.StoreReach'. -/
def storeReachCard : Claim7 := { stood := { row := storeReachRow, standIns := [], harness := (true, "39e81bf50d5d3610275a4ba3d83a89deb643cdf38b17ce6e4502e68b60f51717"), looks := true }, kinds := [], alts := [], laidByText := true, laidKinds := [.data, .data], laidTests := true, laidLooks := .later }
def StoreReachCardSaid : Prop := Claim7.holds Tryz.pinned (.plain (OpenSpec.ofChange storeReachSpec)) storeReachCard

/-- THE TIED CARD OF 'depotlaw19.SweepLives'. -/
def sweepLivesCard : Claim7 := { stood := { row := sweepLivesRow, standIns := [], harness := (true, "39e81bf50d5d3610275a4ba3d83a89deb643cdf38b17ce6e4502e68b60f51717"), looks := true }, kinds := [], alts := [], laidByText := true, laidKinds := [.data, .data], laidTests := true, laidLooks := .later }
def SweepLivesCardSaid : Prop := Claim7.holds Tryz.pinned (.plain (OpenSpec.ofChange sweepLivesSpec)) sweepLivesCard

/-- THE TIED CARD OF 'depotlaw19.SweepEnough'. -/
def sweepEnoughCard : Claim7 := { stood := { row := sweepEnoughRow, standIns := [], harness := (true, "39e81bf50d5d3610275a4ba3d83a89deb643cdf38b17ce6e4502e68b60f51717"), looks := true }, kinds := [], alts := [], laidByText := true, laidKinds := [.data, .data], laidTests := true, laidLooks := .later }
def SweepEnoughCardSaid : Prop := Claim7.holds Tryz.pinned (.plain (OpenSpec.ofChange sweepEnoughSpec)) sweepEnoughCard

/-- THE TIED CARD OF 'depotlaw19.SweepGreatest'. -/
def sweepGreatestCard : Claim7 := { stood := { row := sweepGreatestRow, standIns := [], harness := (true, "39e81bf50d5d3610275a4ba3d83a89deb643cdf38b17ce6e4502e68b60f51717"), looks := true }, kinds := [], alts := [], laidByText := true, laidKinds := [.data, .data], laidTests := true, laidLooks := .later }
def SweepGreatestCardSaid : Prop := Claim7.holds Tryz.pinned (.plain (OpenSpec.ofChange sweepGreatestSpec)) sweepGreatestCard

/-- THE TIED CARD OF 'depotlaw19.SweepKeeps'. -/
def sweepKeepsCard : Claim7 := { stood := { row := sweepKeepsRow, standIns := [], harness := (true, "39e81bf50d5d3610275a4ba3d83a89deb643cdf38b17ce6e4502e68b60f51717"), looks := true }, kinds := [], alts := [], laidByText := true, laidKinds := [.data, .data], laidTests := true, laidLooks := .later }
def SweepKeepsCardSaid : Prop := Claim7.holds Tryz.pinned (.plain (OpenSpec.ofChange sweepKeepsSpec)) sweepKeepsCard

/-- THE TIED CARD OF 'depotlaw17.StoreOrders'. -/
def storeOrdersCard : Claim7 := { stood := { row := storeOrdersRow, standIns := [], harness := (true, "39e81bf50d5d3610275a4ba3d83a89deb643cdf38b17ce6e4502e68b60f51717"), looks := true }, kinds := [], alts := [], laidByText := true, laidKinds := [.data, .data], laidTests := true, laidLooks := .later }
def StoreOrdersCardSaid : Prop := Claim7.holds Tryz.pinned (.plain (OpenSpec.ofChange storeOrdersSpec)) storeOrdersCard

/-- THE TIED CARD OF 'depotlaw19.SweepCollects'. -/
def sweepCollectsCard : Claim7 := { stood := { row := sweepCollectsRow, standIns := [], harness := (true, "39e81bf50d5d3610275a4ba3d83a89deb643cdf38b17ce6e4502e68b60f51717"), looks := true }, kinds := [], alts := [], laidByText := true, laidKinds := [.data, .data], laidTests := true, laidLooks := .later }
def SweepCollectsCardSaid : Prop := Claim7.holds Tryz.pinned (.plain (OpenSpec.ofChange sweepCollectsSpec)) sweepCollectsCard

/-- THE TIED CARD OF 'depotlaw19.SweepSafe'. -/
def sweepSafeCard : Claim7 := { stood := { row := sweepSafeRow, standIns := [], harness := (true, "39e81bf50d5d3610275a4ba3d83a89deb643cdf38b17ce6e4502e68b60f51717"), looks := true }, kinds := [], alts := [], laidByText := true, laidKinds := [.data, .data], laidTests := true, laidLooks := .later }
def SweepSafeCardSaid : Prop := Claim7.holds Tryz.pinned (.plain (OpenSpec.ofChange sweepSafeSpec)) sweepSafeCard

/-- THE TIED CARD OF 'depotlaw17.StoreKeeps'. -/
def storeKeepsCard : Claim7 := { stood := { row := storeKeepsRow, standIns := [], harness := (true, "39e81bf50d5d3610275a4ba3d83a89deb643cdf38b17ce6e4502e68b60f51717"), looks := true }, kinds := [], alts := [], laidByText := true, laidKinds := [.data, .data], laidTests := true, laidLooks := .later }
def StoreKeepsCardSaid : Prop := Claim7.holds Tryz.pinned (.plain (OpenSpec.ofChange storeKeepsSpec)) storeKeepsCard

/-- THE TIED CARD OF 'depotlaw17.StorePlays'. -/
def storePlaysCard : Claim7 := { stood := { row := storePlaysRow, standIns := [], harness := (true, "39e81bf50d5d3610275a4ba3d83a89deb643cdf38b17ce6e4502e68b60f51717"), looks := true }, kinds := [], alts := [], laidByText := true, laidKinds := [.data, .data], laidTests := true, laidLooks := .later }
def StorePlaysCardSaid : Prop := Claim7.holds Tryz.pinned (.plain (OpenSpec.ofChange storePlaysSpec)) storePlaysCard

/-- THE SECOND FORM's CARD OF 'depotlaw17.StoreAdds'. -/
def storeAddsUptoCard : Claim7 := { stood := { row := storeAddsUptoRow, standIns := [], harness := (true, "39e81bf50d5d3610275a4ba3d83a89deb643cdf38b17ce6e4502e68b60f51717"), looks := true }, kinds := [], alts := [], laidByText := true, laidKinds := [.data, .data], laidTests := true, laidLooks := .later }
def StoreAddsUptoCardSaid : Prop := Claim7.holds Tryz.pinned (.plain (OpenSpec.upto storeAddsSpec)) storeAddsUptoCard

/-- THE SECOND FORM's CARD OF 'depotlaw17.StoreOffers'. -/
def storeOffersUptoCard : Claim7 := { stood := { row := storeOffersUptoRow, standIns := [], harness := (true, "39e81bf50d5d3610275a4ba3d83a89deb643cdf38b17ce6e4502e68b60f51717"), looks := true }, kinds := [], alts := [], laidByText := true, laidKinds := [.data, .data], laidTests := true, laidLooks := .later }
def StoreOffersUptoCardSaid : Prop := Claim7.holds Tryz.pinned (.plain (OpenSpec.upto storeOffersSpec)) storeOffersUptoCard

/-- THE SECOND FORM's CARD OF 'depotlaw17.StoreClosed'. -/
def storeClosedUptoCard : Claim7 := { stood := { row := storeClosedUptoRow, standIns := [], harness := (true, "39e81bf50d5d3610275a4ba3d83a89deb643cdf38b17ce6e4502e68b60f51717"), looks := true }, kinds := [], alts := [], laidByText := true, laidKinds := [.data, .data], laidTests := true, laidLooks := .later }
def StoreClosedUptoCardSaid : Prop := Claim7.holds Tryz.pinned (.plain (OpenSpec.upto storeClosedSpec)) storeClosedUptoCard

/-- THE SECOND FORM's CARD OF 'depotlaw17.StoreBack'. -/
def storeBackUptoCard : Claim7 := { stood := { row := storeBackUptoRow, standIns := [], harness := (true, "39e81bf50d5d3610275a4ba3d83a89deb643cdf38b17ce6e4502e68b60f51717"), looks := true }, kinds := [], alts := [], laidByText := true, laidKinds := [.data, .data], laidTests := true, laidLooks := .later }
def StoreBackUptoCardSaid : Prop := Claim7.holds Tryz.pinned (.plain (OpenSpec.upto storeBackSpec)) storeBackUptoCard

/-- THE SECOND FORM's CARD OF 'depotlaw17.StoreReach'. -/
def storeReachUptoCard : Claim7 := { stood := { row := storeReachUptoRow, standIns := [], harness := (true, "39e81bf50d5d3610275a4ba3d83a89deb643cdf38b17ce6e4502e68b60f51717"), looks := true }, kinds := [], alts := [], laidByText := true, laidKinds := [.data, .data], laidTests := true, laidLooks := .later }
def StoreReachUptoCardSaid : Prop := Claim7.holds Tryz.pinned (.plain (OpenSpec.upto storeReachSpec)) storeReachUptoCard

/-- THE SECOND FORM's CARD OF 'depotlaw19.SweepLives'. -/
def sweepLivesUptoCard : Claim7 := { stood := { row := sweepLivesUptoRow, standIns := [], harness := (true, "39e81bf50d5d3610275a4ba3d83a89deb643cdf38b17ce6e4502e68b60f51717"), looks := true }, kinds := [], alts := [], laidByText := true, laidKinds := [.data, .data], laidTests := true, laidLooks := .later }
def SweepLivesUptoCardSaid : Prop := Claim7.holds Tryz.pinned (.plain (OpenSpec.upto sweepLivesSpec)) sweepLivesUptoCard

/-- THE SECOND FORM's CARD OF 'depotlaw19.SweepEnough'. -/
def sweepEnoughUptoCard : Claim7 := { stood := { row := sweepEnoughUptoRow, standIns := [], harness := (true, "39e81bf50d5d3610275a4ba3d83a89deb643cdf38b17ce6e4502e68b60f51717"), looks := true }, kinds := [], alts := [], laidByText := true, laidKinds := [.data, .data], laidTests := true, laidLooks := .later }
def SweepEnoughUptoCardSaid : Prop := Claim7.holds Tryz.pinned (.plain (OpenSpec.upto sweepEnoughSpec)) sweepEnoughUptoCard

/-- THE SECOND FORM's CARD OF 'depotlaw19.SweepGreatest'. -/
def sweepGreatestUptoCard : Claim7 := { stood := { row := sweepGreatestUptoRow, standIns := [], harness := (true, "39e81bf50d5d3610275a4ba3d83a89deb643cdf38b17ce6e4502e68b60f51717"), looks := true }, kinds := [], alts := [], laidByText := true, laidKinds := [.data, .data], laidTests := true, laidLooks := .later }
def SweepGreatestUptoCardSaid : Prop := Claim7.holds Tryz.pinned (.plain (OpenSpec.upto sweepGreatestSpec)) sweepGreatestUptoCard

/-- THE SECOND FORM's CARD OF 'depotlaw19.SweepKeeps'. -/
def sweepKeepsUptoCard : Claim7 := { stood := { row := sweepKeepsUptoRow, standIns := [], harness := (true, "39e81bf50d5d3610275a4ba3d83a89deb643cdf38b17ce6e4502e68b60f51717"), looks := true }, kinds := [], alts := [], laidByText := true, laidKinds := [.data, .data], laidTests := true, laidLooks := .later }
def SweepKeepsUptoCardSaid : Prop := Claim7.holds Tryz.pinned (.plain (OpenSpec.upto sweepKeepsSpec)) sweepKeepsUptoCard

/-- THE SECOND FORM's CARD OF 'depotlaw17.StoreOrders'. -/
def storeOrdersUptoCard : Claim7 := { stood := { row := storeOrdersUptoRow, standIns := [], harness := (true, "39e81bf50d5d3610275a4ba3d83a89deb643cdf38b17ce6e4502e68b60f51717"), looks := true }, kinds := [], alts := [], laidByText := true, laidKinds := [.data, .data], laidTests := true, laidLooks := .later }
def StoreOrdersUptoCardSaid : Prop := Claim7.holds Tryz.pinned (.plain (OpenSpec.upto storeOrdersSpec)) storeOrdersUptoCard

/-- THE SECOND FORM's CARD OF 'depotlaw19.SweepCollects'. -/
def sweepCollectsUptoCard : Claim7 := { stood := { row := sweepCollectsUptoRow, standIns := [], harness := (true, "39e81bf50d5d3610275a4ba3d83a89deb643cdf38b17ce6e4502e68b60f51717"), looks := true }, kinds := [], alts := [], laidByText := true, laidKinds := [.data, .data], laidTests := true, laidLooks := .later }
def SweepCollectsUptoCardSaid : Prop := Claim7.holds Tryz.pinned (.plain (OpenSpec.upto sweepCollectsSpec)) sweepCollectsUptoCard

/-- THE SECOND FORM's CARD OF 'depotlaw19.SweepSafe'. -/
def sweepSafeUptoCard : Claim7 := { stood := { row := sweepSafeUptoRow, standIns := [], harness := (true, "39e81bf50d5d3610275a4ba3d83a89deb643cdf38b17ce6e4502e68b60f51717"), looks := true }, kinds := [], alts := [], laidByText := true, laidKinds := [.data, .data], laidTests := true, laidLooks := .later }
def SweepSafeUptoCardSaid : Prop := Claim7.holds Tryz.pinned (.plain (OpenSpec.upto sweepSafeSpec)) sweepSafeUptoCard

/-- THE SECOND FORM's CARD OF 'depotlaw17.StoreKeeps'. -/
def storeKeepsUptoCard : Claim7 := { stood := { row := storeKeepsUptoRow, standIns := [], harness := (true, "39e81bf50d5d3610275a4ba3d83a89deb643cdf38b17ce6e4502e68b60f51717"), looks := true }, kinds := [], alts := [], laidByText := true, laidKinds := [.data, .data], laidTests := true, laidLooks := .later }
def StoreKeepsUptoCardSaid : Prop := Claim7.holds Tryz.pinned (.plain (OpenSpec.upto storeKeepsSpec)) storeKeepsUptoCard

/-- THE SECOND FORM's CARD OF 'depotlaw17.StorePlays'. -/
def storePlaysUptoCard : Claim7 := { stood := { row := storePlaysUptoRow, standIns := [], harness := (true, "39e81bf50d5d3610275a4ba3d83a89deb643cdf38b17ce6e4502e68b60f51717"), looks := true }, kinds := [], alts := [], laidByText := true, laidKinds := [.data, .data], laidTests := true, laidLooks := .later }
def StorePlaysUptoCardSaid : Prop := Claim7.holds Tryz.pinned (.plain (OpenSpec.upto storePlaysSpec)) storePlaysUptoCard
end Rows
end Go.Proofs.YtmmmghpimdfleaaGreatDoor
