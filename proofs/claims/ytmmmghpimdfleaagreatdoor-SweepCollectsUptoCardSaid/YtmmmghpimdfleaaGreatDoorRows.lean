/-
  NARROWER THAN 'FOR EVERY INPUT', by the rows' own cells (each row's printed sentence says how): StoreAdds: loops, laid · StoreOffers: loops, laid · StoreClosed: loops, laid · StoreBack: loops, laid · StoreReach: loops, laid · SweepLives: loops, laid · SweepEnough: loops, laid · SweepGreatest: loops, laid · SweepKeeps: loops, laid · StoreOrders: loops, laid · SweepCollects: loops, laid · SweepSafe: loops, laid · StoreKeeps: loops, laid · StorePlays: loops, laid.
  DERIVED. THE GIVEN ROWS OF THIS SEAT. 14 by the template 'for every input the law returns true; each argument reads behind the call as it read before'; 0 by the template 'total and deterministic' (their statements: YtmmmghpimdfleaaGreatDoorTotals.lean).
  GIVEN WITH THE SEED: the statements are not yours to turn. If you find one false, say at which input.
  Laid BY PROGRAM, IN A SANDBOX (cutbox-rows.mjs): the forced cells as the released guide's own fill.sh prints them over the translation d0ae503391060125… (all of the seat's roots in one cut). By AI agents, Wed Nov 11 2026. No macro, syntax, notation, axiom, sorry.
-/
import Derived.Test.YtmmmghpimdfleaaGreatDoorChecked
import GoSem.Claim
import GoSem.ClaimJoined
import GoSem.ClaimMapViews
import Derived.JoinedTies
import Derived.KernelRfl
namespace Go.Proofs.YtmmmghpimdfleaaGreatDoor
/- THE CELL 'sum', in the pinned program and in every row, IS THE sha256 OF THE DUMP (.gsa) THAT YtmmmghpimdfleaaGreatDoorProg.lean LOADS. Nothing in Lean hashes anything: it is a label: what it is worth is what the hold of that sum in a sandbox is worth. -/
noncomputable def Tryz.pinned : Pinned := { name := "ytmmmghpimdfleaagreatdoor", sum := "d0ae5033910601251cbb560f67375bd3edfb72b1c0f979d27f560bafb6cb51d7", checked := Tryz.checked }
namespace Rows
def none {H : Type} : Left H := { results := [], args := [] }

/- WHAT THE LISTED PACKAGE-LEVEL VARIABLES READ AS WHEN THE CALL BEGINS. Each datum BY PROGRAM (the guide's laid-datum.mjs) off the statement by which the dump's own 'gosem.cut.vars' lays the variable. In a bare row this is a premise. The card (YtmmmghpimdfleaaGreatDoorCards.lean) ties it to the program's text. -/
def laid_depot_sha_rounds {H : Type} : DataW H := .agg [.lit (.int .u32 1116352408), .lit (.int .u32 1899447441), .lit (.int .u32 3049323471), .lit (.int .u32 3921009573), .lit (.int .u32 961987163), .lit (.int .u32 1508970993), .lit (.int .u32 2453635748), .lit (.int .u32 2870763221), .lit (.int .u32 3624381080), .lit (.int .u32 310598401), .lit (.int .u32 607225278), .lit (.int .u32 1426881987), .lit (.int .u32 1925078388), .lit (.int .u32 2162078206), .lit (.int .u32 2614888103), .lit (.int .u32 3248222580), .lit (.int .u32 3835390401), .lit (.int .u32 4022224774), .lit (.int .u32 264347078), .lit (.int .u32 604807628), .lit (.int .u32 770255983), .lit (.int .u32 1249150122), .lit (.int .u32 1555081692), .lit (.int .u32 1996064986), .lit (.int .u32 2554220882), .lit (.int .u32 2821834349), .lit (.int .u32 2952996808), .lit (.int .u32 3210313671), .lit (.int .u32 3336571891), .lit (.int .u32 3584528711), .lit (.int .u32 113926993), .lit (.int .u32 338241895), .lit (.int .u32 666307205), .lit (.int .u32 773529912), .lit (.int .u32 1294757372), .lit (.int .u32 1396182291), .lit (.int .u32 1695183700), .lit (.int .u32 1986661051), .lit (.int .u32 2177026350), .lit (.int .u32 2456956037), .lit (.int .u32 2730485921), .lit (.int .u32 2820302411), .lit (.int .u32 3259730800), .lit (.int .u32 3345764771), .lit (.int .u32 3516065817), .lit (.int .u32 3600352804), .lit (.int .u32 4094571909), .lit (.int .u32 275423344), .lit (.int .u32 430227734), .lit (.int .u32 506948616), .lit (.int .u32 659060556), .lit (.int .u32 883997877), .lit (.int .u32 958139571), .lit (.int .u32 1322822218), .lit (.int .u32 1537002063), .lit (.int .u32 1747873779), .lit (.int .u32 1955562222), .lit (.int .u32 2024104815), .lit (.int .u32 2227730452), .lit (.int .u32 2361852424), .lit (.int .u32 2428436474), .lit (.int .u32 2756734187), .lit (.int .u32 3204031479), .lit (.int .u32 3329325298)]
def laid_depot_sha_start {H : Type} : DataW H := .agg [.lit (.int .u32 1779033703), .lit (.int .u32 3144134277), .lit (.int .u32 1013904242), .lit (.int .u32 2773480762), .lit (.int .u32 1359893119), .lit (.int .u32 2600822924), .lit (.int .u32 528734635), .lit (.int .u32 1541459225)]

/-- 'depotlaw17.StoreAdds': WHATEVER THE INPUT: true; the input reads as it did. -/
def storeAddsSpec : ChangeSpec := { name := "storeAdds", fn := fun _ => fun
  | [d1, d2, d3] => { results := [.lit (.bool true)], args := [d1, d2, d3] }
  | _ => none }
def storeAddsRow : OpenClaim := { program := "ytmmmghpimdfleaagreatdoor", sum := "d0ae5033910601251cbb560f67375bd3edfb72b1c0f979d27f560bafb6cb51d7", func := "depot/depotlaw17.StoreAdds", spec := "storeAdds", inPlace := ["internal/bytealg.IndexByteString", "internal/bytealg.IndexString", "internal/abi.NoEscape", "internal/bytealg.MakeNoZero", "slices.overlaps[string]", "slices.overlaps[depot/api.Record]"], unfollowed := true, recurses := true, named := ["depot/sha.start", "depot/sha.rounds", "internal/bytealg.MaxLen"], loops := true, apart := false, laid := [("depot/sha.rounds", laid_depot_sha_rounds), ("depot/sha.start", laid_depot_sha_start)] }
def StoreAddsSaid : Prop := storeAddsRow.holds Tryz.pinned (OpenSpec.ofChange storeAddsSpec)

/-- ITS FALSE NEIGHBOUR: 'it returns false'. Refute it at one input. -/
def storeAddsWrong : ChangeSpec := { name := "storeAdds", fn := fun _ => fun
  | [d1, d2, d3] => { results := [.lit (.bool false)], args := [d1, d2, d3] }
  | _ => none }
def StoreAddsWrongFalsely : Prop := storeAddsRow.holds Tryz.pinned (OpenSpec.ofChange storeAddsWrong)

/-- 'depotlaw17.StoreOffers': WHATEVER THE INPUT: true; the input reads as it did. -/
def storeOffersSpec : ChangeSpec := { name := "storeOffers", fn := fun _ => fun
  | [d1, d2] => { results := [.lit (.bool true)], args := [d1, d2] }
  | _ => none }
def storeOffersRow : OpenClaim := { program := "ytmmmghpimdfleaagreatdoor", sum := "d0ae5033910601251cbb560f67375bd3edfb72b1c0f979d27f560bafb6cb51d7", func := "depot/depotlaw17.StoreOffers", spec := "storeOffers", inPlace := ["internal/bytealg.IndexByteString", "internal/bytealg.IndexString", "internal/abi.NoEscape", "internal/bytealg.MakeNoZero", "slices.overlaps[string]", "slices.overlaps[depot/api.Record]"], unfollowed := true, recurses := true, named := ["depot/sha.start", "depot/sha.rounds", "internal/bytealg.MaxLen"], loops := true, apart := false, laid := [("depot/sha.rounds", laid_depot_sha_rounds), ("depot/sha.start", laid_depot_sha_start)] }
def StoreOffersSaid : Prop := storeOffersRow.holds Tryz.pinned (OpenSpec.ofChange storeOffersSpec)

/-- ITS FALSE NEIGHBOUR: 'it returns false'. Refute it at one input. -/
def storeOffersWrong : ChangeSpec := { name := "storeOffers", fn := fun _ => fun
  | [d1, d2] => { results := [.lit (.bool false)], args := [d1, d2] }
  | _ => none }
def StoreOffersWrongFalsely : Prop := storeOffersRow.holds Tryz.pinned (OpenSpec.ofChange storeOffersWrong)

/-- 'depotlaw17.StoreClosed': WHATEVER THE INPUT: true; the input reads as it did. -/
def storeClosedSpec : ChangeSpec := { name := "storeClosed", fn := fun _ => fun
  | [d] => { results := [.lit (.bool true)], args := [d] }
  | _ => none }
def storeClosedRow : OpenClaim := { program := "ytmmmghpimdfleaagreatdoor", sum := "d0ae5033910601251cbb560f67375bd3edfb72b1c0f979d27f560bafb6cb51d7", func := "depot/depotlaw17.StoreClosed", spec := "storeClosed", inPlace := ["internal/bytealg.IndexByteString", "internal/bytealg.IndexString", "internal/abi.NoEscape", "internal/bytealg.MakeNoZero", "slices.overlaps[string]", "slices.overlaps[depot/api.Record]"], unfollowed := true, recurses := true, named := ["depot/sha.start", "depot/sha.rounds", "internal/bytealg.MaxLen"], loops := true, apart := false, laid := [("depot/sha.rounds", laid_depot_sha_rounds), ("depot/sha.start", laid_depot_sha_start)] }
def StoreClosedSaid : Prop := storeClosedRow.holds Tryz.pinned (OpenSpec.ofChange storeClosedSpec)

/-- ITS FALSE NEIGHBOUR: 'it returns false'. Refute it at one input. -/
def storeClosedWrong : ChangeSpec := { name := "storeClosed", fn := fun _ => fun
  | [d] => { results := [.lit (.bool false)], args := [d] }
  | _ => none }
def StoreClosedWrongFalsely : Prop := storeClosedRow.holds Tryz.pinned (OpenSpec.ofChange storeClosedWrong)

/-- 'depotlaw17.StoreBack': WHATEVER THE INPUT: true; the input reads as it did. -/
def storeBackSpec : ChangeSpec := { name := "storeBack", fn := fun _ => fun
  | [d] => { results := [.lit (.bool true)], args := [d] }
  | _ => none }
def storeBackRow : OpenClaim := { program := "ytmmmghpimdfleaagreatdoor", sum := "d0ae5033910601251cbb560f67375bd3edfb72b1c0f979d27f560bafb6cb51d7", func := "depot/depotlaw17.StoreBack", spec := "storeBack", inPlace := ["internal/bytealg.IndexByteString", "internal/bytealg.IndexString", "internal/abi.NoEscape", "internal/bytealg.MakeNoZero", "slices.overlaps[string]", "slices.overlaps[depot/api.Record]"], unfollowed := true, recurses := true, named := ["depot/sha.start", "depot/sha.rounds", "internal/bytealg.MaxLen"], loops := true, apart := false, laid := [("depot/sha.rounds", laid_depot_sha_rounds), ("depot/sha.start", laid_depot_sha_start)] }
def StoreBackSaid : Prop := storeBackRow.holds Tryz.pinned (OpenSpec.ofChange storeBackSpec)

/-- ITS FALSE NEIGHBOUR: 'it returns false'. Refute it at one input. -/
def storeBackWrong : ChangeSpec := { name := "storeBack", fn := fun _ => fun
  | [d] => { results := [.lit (.bool false)], args := [d] }
  | _ => none }
def StoreBackWrongFalsely : Prop := storeBackRow.holds Tryz.pinned (OpenSpec.ofChange storeBackWrong)

/-- 'depotlaw17.StoreReach': WHATEVER THE INPUT: true; the input reads as it did. -/
def storeReachSpec : ChangeSpec := { name := "storeReach", fn := fun _ => fun
  | [d1, d2] => { results := [.lit (.bool true)], args := [d1, d2] }
  | _ => none }
def storeReachRow : OpenClaim := { program := "ytmmmghpimdfleaagreatdoor", sum := "d0ae5033910601251cbb560f67375bd3edfb72b1c0f979d27f560bafb6cb51d7", func := "depot/depotlaw17.StoreReach", spec := "storeReach", inPlace := ["internal/bytealg.IndexByteString", "internal/bytealg.IndexString", "internal/abi.NoEscape", "internal/bytealg.MakeNoZero", "slices.overlaps[string]", "slices.overlaps[depot/api.Record]"], unfollowed := true, recurses := true, named := ["depot/sha.start", "depot/sha.rounds", "internal/bytealg.MaxLen"], loops := true, apart := false, laid := [("depot/sha.rounds", laid_depot_sha_rounds), ("depot/sha.start", laid_depot_sha_start)] }
def StoreReachSaid : Prop := storeReachRow.holds Tryz.pinned (OpenSpec.ofChange storeReachSpec)

/-- ITS FALSE NEIGHBOUR: 'it returns false'. Refute it at one input. -/
def storeReachWrong : ChangeSpec := { name := "storeReach", fn := fun _ => fun
  | [d1, d2] => { results := [.lit (.bool false)], args := [d1, d2] }
  | _ => none }
def StoreReachWrongFalsely : Prop := storeReachRow.holds Tryz.pinned (OpenSpec.ofChange storeReachWrong)

/-- 'depotlaw19.SweepLives': WHATEVER THE INPUT: true; the input reads as it did. -/
def sweepLivesSpec : ChangeSpec := { name := "sweepLives", fn := fun _ => fun
  | [d1, d2] => { results := [.lit (.bool true)], args := [d1, d2] }
  | _ => none }
def sweepLivesRow : OpenClaim := { program := "ytmmmghpimdfleaagreatdoor", sum := "d0ae5033910601251cbb560f67375bd3edfb72b1c0f979d27f560bafb6cb51d7", func := "depot/depotlaw19.SweepLives", spec := "sweepLives", inPlace := ["internal/bytealg.IndexByteString", "internal/bytealg.IndexString", "internal/abi.NoEscape", "internal/bytealg.MakeNoZero", "slices.overlaps[string]", "slices.overlaps[depot/api.Record]"], unfollowed := true, recurses := true, named := ["depot/sha.start", "depot/sha.rounds", "internal/bytealg.MaxLen"], loops := true, apart := false, laid := [("depot/sha.rounds", laid_depot_sha_rounds), ("depot/sha.start", laid_depot_sha_start)] }
def SweepLivesSaid : Prop := sweepLivesRow.holds Tryz.pinned (OpenSpec.ofChange sweepLivesSpec)

/-- ITS FALSE NEIGHBOUR: 'it returns false'. Refute it at one input. -/
def sweepLivesWrong : ChangeSpec := { name := "sweepLives", fn := fun _ => fun
  | [d1, d2] => { results := [.lit (.bool false)], args := [d1, d2] }
  | _ => none }
def SweepLivesWrongFalsely : Prop := sweepLivesRow.holds Tryz.pinned (OpenSpec.ofChange sweepLivesWrong)

/-- 'depotlaw19.SweepEnough': WHATEVER THE INPUT: true; the input reads as it did. -/
def sweepEnoughSpec : ChangeSpec := { name := "sweepEnough", fn := fun _ => fun
  | [d1, d2] => { results := [.lit (.bool true)], args := [d1, d2] }
  | _ => none }
def sweepEnoughRow : OpenClaim := { program := "ytmmmghpimdfleaagreatdoor", sum := "d0ae5033910601251cbb560f67375bd3edfb72b1c0f979d27f560bafb6cb51d7", func := "depot/depotlaw19.SweepEnough", spec := "sweepEnough", inPlace := ["internal/bytealg.IndexByteString", "internal/bytealg.IndexString", "internal/abi.NoEscape", "internal/bytealg.MakeNoZero", "slices.overlaps[string]", "slices.overlaps[depot/api.Record]"], unfollowed := true, recurses := true, named := ["depot/sha.start", "depot/sha.rounds", "internal/bytealg.MaxLen"], loops := true, apart := false, laid := [("depot/sha.rounds", laid_depot_sha_rounds), ("depot/sha.start", laid_depot_sha_start)] }
def SweepEnoughSaid : Prop := sweepEnoughRow.holds Tryz.pinned (OpenSpec.ofChange sweepEnoughSpec)

/-- ITS FALSE NEIGHBOUR: 'it returns false'. Refute it at one input. -/
def sweepEnoughWrong : ChangeSpec := { name := "sweepEnough", fn := fun _ => fun
  | [d1, d2] => { results := [.lit (.bool false)], args := [d1, d2] }
  | _ => none }
def SweepEnoughWrongFalsely : Prop := sweepEnoughRow.holds Tryz.pinned (OpenSpec.ofChange sweepEnoughWrong)

/-- 'depotlaw19.SweepGreatest': WHATEVER THE INPUT: true; the input reads as it did. -/
def sweepGreatestSpec : ChangeSpec := { name := "sweepGreatest", fn := fun _ => fun
  | [d1, d2] => { results := [.lit (.bool true)], args := [d1, d2] }
  | _ => none }
def sweepGreatestRow : OpenClaim := { program := "ytmmmghpimdfleaagreatdoor", sum := "d0ae5033910601251cbb560f67375bd3edfb72b1c0f979d27f560bafb6cb51d7", func := "depot/depotlaw19.SweepGreatest", spec := "sweepGreatest", inPlace := ["internal/bytealg.IndexByteString", "internal/bytealg.IndexString", "internal/abi.NoEscape", "internal/bytealg.MakeNoZero", "slices.overlaps[string]", "slices.overlaps[depot/api.Record]"], unfollowed := true, recurses := true, named := ["depot/sha.start", "depot/sha.rounds", "internal/bytealg.MaxLen"], loops := true, apart := false, laid := [("depot/sha.rounds", laid_depot_sha_rounds), ("depot/sha.start", laid_depot_sha_start)] }
def SweepGreatestSaid : Prop := sweepGreatestRow.holds Tryz.pinned (OpenSpec.ofChange sweepGreatestSpec)

/-- ITS FALSE NEIGHBOUR: 'it returns false'. Refute it at one input. -/
def sweepGreatestWrong : ChangeSpec := { name := "sweepGreatest", fn := fun _ => fun
  | [d1, d2] => { results := [.lit (.bool false)], args := [d1, d2] }
  | _ => none }
def SweepGreatestWrongFalsely : Prop := sweepGreatestRow.holds Tryz.pinned (OpenSpec.ofChange sweepGreatestWrong)

/-- 'depotlaw19.SweepKeeps': WHATEVER THE INPUT: true; the input reads as it did. -/
def sweepKeepsSpec : ChangeSpec := { name := "sweepKeeps", fn := fun _ => fun
  | [d1, d2, d3] => { results := [.lit (.bool true)], args := [d1, d2, d3] }
  | _ => none }
def sweepKeepsRow : OpenClaim := { program := "ytmmmghpimdfleaagreatdoor", sum := "d0ae5033910601251cbb560f67375bd3edfb72b1c0f979d27f560bafb6cb51d7", func := "depot/depotlaw19.SweepKeeps", spec := "sweepKeeps", inPlace := ["internal/bytealg.IndexByteString", "internal/bytealg.IndexString", "internal/abi.NoEscape", "internal/bytealg.MakeNoZero", "slices.overlaps[string]", "slices.overlaps[depot/api.Record]"], unfollowed := true, recurses := true, named := ["depot/sha.start", "depot/sha.rounds", "internal/bytealg.MaxLen"], loops := true, apart := false, laid := [("depot/sha.rounds", laid_depot_sha_rounds), ("depot/sha.start", laid_depot_sha_start)] }
def SweepKeepsSaid : Prop := sweepKeepsRow.holds Tryz.pinned (OpenSpec.ofChange sweepKeepsSpec)

/-- ITS FALSE NEIGHBOUR: 'it returns false'. Refute it at one input. -/
def sweepKeepsWrong : ChangeSpec := { name := "sweepKeeps", fn := fun _ => fun
  | [d1, d2, d3] => { results := [.lit (.bool false)], args := [d1, d2, d3] }
  | _ => none }
def SweepKeepsWrongFalsely : Prop := sweepKeepsRow.holds Tryz.pinned (OpenSpec.ofChange sweepKeepsWrong)

/-- 'depotlaw17.StoreOrders': WHATEVER THE INPUT: true; the input reads as it did. -/
def storeOrdersSpec : ChangeSpec := { name := "storeOrders", fn := fun _ => fun
  | [d1, d2] => { results := [.lit (.bool true)], args := [d1, d2] }
  | _ => none }
def storeOrdersRow : OpenClaim := { program := "ytmmmghpimdfleaagreatdoor", sum := "d0ae5033910601251cbb560f67375bd3edfb72b1c0f979d27f560bafb6cb51d7", func := "depot/depotlaw17.StoreOrders", spec := "storeOrders", inPlace := ["internal/bytealg.IndexByteString", "internal/bytealg.IndexString", "internal/abi.NoEscape", "internal/bytealg.MakeNoZero", "slices.overlaps[string]", "slices.overlaps[depot/api.Record]"], unfollowed := true, recurses := true, named := ["depot/sha.start", "depot/sha.rounds", "internal/bytealg.MaxLen"], loops := true, apart := false, laid := [("depot/sha.rounds", laid_depot_sha_rounds), ("depot/sha.start", laid_depot_sha_start)] }
def StoreOrdersSaid : Prop := storeOrdersRow.holds Tryz.pinned (OpenSpec.ofChange storeOrdersSpec)

/-- ITS FALSE NEIGHBOUR: 'it returns false'. Refute it at one input. -/
def storeOrdersWrong : ChangeSpec := { name := "storeOrders", fn := fun _ => fun
  | [d1, d2] => { results := [.lit (.bool false)], args := [d1, d2] }
  | _ => none }
def StoreOrdersWrongFalsely : Prop := storeOrdersRow.holds Tryz.pinned (OpenSpec.ofChange storeOrdersWrong)

/-- 'depotlaw19.SweepCollects': WHATEVER THE INPUT: true; the input reads as it did. -/
def sweepCollectsSpec : ChangeSpec := { name := "sweepCollects", fn := fun _ => fun
  | [d1, d2] => { results := [.lit (.bool true)], args := [d1, d2] }
  | _ => none }
def sweepCollectsRow : OpenClaim := { program := "ytmmmghpimdfleaagreatdoor", sum := "d0ae5033910601251cbb560f67375bd3edfb72b1c0f979d27f560bafb6cb51d7", func := "depot/depotlaw19.SweepCollects", spec := "sweepCollects", inPlace := ["internal/bytealg.IndexByteString", "internal/bytealg.IndexString", "internal/abi.NoEscape", "internal/bytealg.MakeNoZero", "slices.overlaps[string]", "slices.overlaps[depot/api.Record]"], unfollowed := true, recurses := true, named := ["depot/sha.start", "depot/sha.rounds", "internal/bytealg.MaxLen"], loops := true, apart := false, laid := [("depot/sha.rounds", laid_depot_sha_rounds), ("depot/sha.start", laid_depot_sha_start)] }
def SweepCollectsSaid : Prop := sweepCollectsRow.holds Tryz.pinned (OpenSpec.ofChange sweepCollectsSpec)

/-- ITS FALSE NEIGHBOUR: 'it returns false'. Refute it at one input. -/
def sweepCollectsWrong : ChangeSpec := { name := "sweepCollects", fn := fun _ => fun
  | [d1, d2] => { results := [.lit (.bool false)], args := [d1, d2] }
  | _ => none }
def SweepCollectsWrongFalsely : Prop := sweepCollectsRow.holds Tryz.pinned (OpenSpec.ofChange sweepCollectsWrong)

/-- 'depotlaw19.SweepSafe': WHATEVER THE INPUT: true; the input reads as it did. -/
def sweepSafeSpec : ChangeSpec := { name := "sweepSafe", fn := fun _ => fun
  | [d1, d2] => { results := [.lit (.bool true)], args := [d1, d2] }
  | _ => none }
def sweepSafeRow : OpenClaim := { program := "ytmmmghpimdfleaagreatdoor", sum := "d0ae5033910601251cbb560f67375bd3edfb72b1c0f979d27f560bafb6cb51d7", func := "depot/depotlaw19.SweepSafe", spec := "sweepSafe", inPlace := ["internal/bytealg.IndexByteString", "internal/bytealg.IndexString", "internal/abi.NoEscape", "internal/bytealg.MakeNoZero", "slices.overlaps[string]", "slices.overlaps[depot/api.Record]"], unfollowed := true, recurses := true, named := ["depot/sha.start", "depot/sha.rounds", "internal/bytealg.MaxLen"], loops := true, apart := false, laid := [("depot/sha.rounds", laid_depot_sha_rounds), ("depot/sha.start", laid_depot_sha_start)] }
def SweepSafeSaid : Prop := sweepSafeRow.holds Tryz.pinned (OpenSpec.ofChange sweepSafeSpec)

/-- ITS FALSE NEIGHBOUR: 'it returns false'. Refute it at one input. -/
def sweepSafeWrong : ChangeSpec := { name := "sweepSafe", fn := fun _ => fun
  | [d1, d2] => { results := [.lit (.bool false)], args := [d1, d2] }
  | _ => none }
def SweepSafeWrongFalsely : Prop := sweepSafeRow.holds Tryz.pinned (OpenSpec.ofChange sweepSafeWrong)

/-- 'depotlaw17.StoreKeeps': WHATEVER THE INPUT: true; the input reads as it did. -/
def storeKeepsSpec : ChangeSpec := { name := "storeKeeps", fn := fun _ => fun
  | [d1, d2] => { results := [.lit (.bool true)], args := [d1, d2] }
  | _ => none }
def storeKeepsRow : OpenClaim := { program := "ytmmmghpimdfleaagreatdoor", sum := "d0ae5033910601251cbb560f67375bd3edfb72b1c0f979d27f560bafb6cb51d7", func := "depot/depotlaw17.StoreKeeps", spec := "storeKeeps", inPlace := ["internal/bytealg.IndexByteString", "internal/bytealg.IndexString", "internal/abi.NoEscape", "internal/bytealg.MakeNoZero", "slices.overlaps[string]", "slices.overlaps[depot/api.Record]"], unfollowed := true, recurses := true, named := ["depot/sha.start", "depot/sha.rounds", "internal/bytealg.MaxLen"], loops := true, apart := false, laid := [("depot/sha.rounds", laid_depot_sha_rounds), ("depot/sha.start", laid_depot_sha_start)] }
def StoreKeepsSaid : Prop := storeKeepsRow.holds Tryz.pinned (OpenSpec.ofChange storeKeepsSpec)

/-- ITS FALSE NEIGHBOUR: 'it returns false'. Refute it at one input. -/
def storeKeepsWrong : ChangeSpec := { name := "storeKeeps", fn := fun _ => fun
  | [d1, d2] => { results := [.lit (.bool false)], args := [d1, d2] }
  | _ => none }
def StoreKeepsWrongFalsely : Prop := storeKeepsRow.holds Tryz.pinned (OpenSpec.ofChange storeKeepsWrong)

/-- 'depotlaw17.StorePlays': WHATEVER THE INPUT: true; the input reads as it did. -/
def storePlaysSpec : ChangeSpec := { name := "storePlays", fn := fun _ => fun
  | [d] => { results := [.lit (.bool true)], args := [d] }
  | _ => none }
def storePlaysRow : OpenClaim := { program := "ytmmmghpimdfleaagreatdoor", sum := "d0ae5033910601251cbb560f67375bd3edfb72b1c0f979d27f560bafb6cb51d7", func := "depot/depotlaw17.StorePlays", spec := "storePlays", inPlace := ["internal/bytealg.IndexByteString", "internal/bytealg.IndexString", "internal/abi.NoEscape", "internal/bytealg.MakeNoZero", "slices.overlaps[string]", "slices.overlaps[depot/api.Record]"], unfollowed := true, recurses := true, named := ["depot/sha.start", "depot/sha.rounds", "internal/bytealg.MaxLen"], loops := true, apart := false, laid := [("depot/sha.rounds", laid_depot_sha_rounds), ("depot/sha.start", laid_depot_sha_start)] }
def StorePlaysSaid : Prop := storePlaysRow.holds Tryz.pinned (OpenSpec.ofChange storePlaysSpec)

/-- ITS FALSE NEIGHBOUR: 'it returns false'. Refute it at one input. -/
def storePlaysWrong : ChangeSpec := { name := "storePlays", fn := fun _ => fun
  | [d] => { results := [.lit (.bool false)], args := [d] }
  | _ => none }
def StorePlaysWrongFalsely : Prop := storePlaysRow.holds Tryz.pinned (OpenSpec.ofChange storePlaysWrong)

/- THE SECOND FORM. 'bulk': how many values and letters a reading holds, each counted each time it is reached (what is shared counts as often as it is met; a slice's spare places count too). A statement '..UptoSaid' is the law's where the arguments, and the package variables that the reading takes, are together of bulk at most 1048576: NARROWER than '..Said'. Prove '..Said' where nothing that the law and all that it calls make is longer than what came in: it says more and counts as full. Else prove '..UptoSaid'. A law counts once. -/
mutual
def uptoBulk {H : Type} : DataW H → Nat
  | .lit (.string bytes) => bytes.length + 1
  | .lit _ => 1
  | .nil => 1
  | .ptr d => uptoBulk d + 1
  | .slice elems spare => uptoBulkAll elems + uptoBulkAll spare + 1
  | .agg parts => uptoBulkAll parts + 1
  | .iface _ d => uptoBulk d + 1
  | .map entries => uptoBulkEntries entries + 1
  | .held _ => 1
def uptoBulkAll {H : Type} : List (DataW H) → Nat
  | [] => 0
  | d :: r => uptoBulk d + uptoBulkAll r
def uptoBulkEntries {H : Type} : List (Lit × DataW H) → Nat
  | [] => 0
  | x :: r => uptoBulkEntry x + uptoBulkEntries r
def uptoBulkEntry {H : Type} : Lit × DataW H → Nat
  | (.string bytes, d) => bytes.length + uptoBulk d + 1
  | (_, d) => uptoBulk d + 1
 end
def uptoSmall : (H : Type) → List (DataW H) → Bool := fun _ ds => decide (uptoBulkAll ds ≤ 1048576)
def OpenSpec.upto (s : _root_.Go.ChangeSpec) : _root_.Go.OpenSpec := { _root_.Go.OpenSpec.ofChange s with cond := some uptoSmall }

/-- 'depotlaw17.StoreAdds', WHERE WHAT IT READS IS OF BULK AT MOST 1048576: true; the input reads as it did. -/
def storeAddsUptoRow : OpenClaim := { program := "ytmmmghpimdfleaagreatdoor", sum := "d0ae5033910601251cbb560f67375bd3edfb72b1c0f979d27f560bafb6cb51d7", func := "depot/depotlaw17.StoreAdds", spec := "storeAdds", inPlace := ["internal/bytealg.IndexByteString", "internal/bytealg.IndexString", "internal/abi.NoEscape", "internal/bytealg.MakeNoZero", "slices.overlaps[string]", "slices.overlaps[depot/api.Record]"], unfollowed := true, recurses := true, named := ["depot/sha.start", "depot/sha.rounds", "internal/bytealg.MaxLen"], loops := true, apart := false, laid := [("depot/sha.rounds", laid_depot_sha_rounds), ("depot/sha.start", laid_depot_sha_start)], narrowed := true }
def StoreAddsUptoSaid : Prop := storeAddsUptoRow.holds Tryz.pinned (OpenSpec.upto storeAddsSpec)

/-- 'depotlaw17.StoreOffers', WHERE WHAT IT READS IS OF BULK AT MOST 1048576: true; the input reads as it did. -/
def storeOffersUptoRow : OpenClaim := { program := "ytmmmghpimdfleaagreatdoor", sum := "d0ae5033910601251cbb560f67375bd3edfb72b1c0f979d27f560bafb6cb51d7", func := "depot/depotlaw17.StoreOffers", spec := "storeOffers", inPlace := ["internal/bytealg.IndexByteString", "internal/bytealg.IndexString", "internal/abi.NoEscape", "internal/bytealg.MakeNoZero", "slices.overlaps[string]", "slices.overlaps[depot/api.Record]"], unfollowed := true, recurses := true, named := ["depot/sha.start", "depot/sha.rounds", "internal/bytealg.MaxLen"], loops := true, apart := false, laid := [("depot/sha.rounds", laid_depot_sha_rounds), ("depot/sha.start", laid_depot_sha_start)], narrowed := true }
def StoreOffersUptoSaid : Prop := storeOffersUptoRow.holds Tryz.pinned (OpenSpec.upto storeOffersSpec)

/-- 'depotlaw17.StoreClosed', WHERE WHAT IT READS IS OF BULK AT MOST 1048576: true; the input reads as it did. -/
def storeClosedUptoRow : OpenClaim := { program := "ytmmmghpimdfleaagreatdoor", sum := "d0ae5033910601251cbb560f67375bd3edfb72b1c0f979d27f560bafb6cb51d7", func := "depot/depotlaw17.StoreClosed", spec := "storeClosed", inPlace := ["internal/bytealg.IndexByteString", "internal/bytealg.IndexString", "internal/abi.NoEscape", "internal/bytealg.MakeNoZero", "slices.overlaps[string]", "slices.overlaps[depot/api.Record]"], unfollowed := true, recurses := true, named := ["depot/sha.start", "depot/sha.rounds", "internal/bytealg.MaxLen"], loops := true, apart := false, laid := [("depot/sha.rounds", laid_depot_sha_rounds), ("depot/sha.start", laid_depot_sha_start)], narrowed := true }
def StoreClosedUptoSaid : Prop := storeClosedUptoRow.holds Tryz.pinned (OpenSpec.upto storeClosedSpec)

/-- 'depotlaw17.StoreBack', WHERE WHAT IT READS IS OF BULK AT MOST 1048576: true; the input reads as it did. -/
def storeBackUptoRow : OpenClaim := { program := "ytmmmghpimdfleaagreatdoor", sum := "d0ae5033910601251cbb560f67375bd3edfb72b1c0f979d27f560bafb6cb51d7", func := "depot/depotlaw17.StoreBack", spec := "storeBack", inPlace := ["internal/bytealg.IndexByteString", "internal/bytealg.IndexString", "internal/abi.NoEscape", "internal/bytealg.MakeNoZero", "slices.overlaps[string]", "slices.overlaps[depot/api.Record]"], unfollowed := true, recurses := true, named := ["depot/sha.start", "depot/sha.rounds", "internal/bytealg.MaxLen"], loops := true, apart := false, laid := [("depot/sha.rounds", laid_depot_sha_rounds), ("depot/sha.start", laid_depot_sha_start)], narrowed := true }
def StoreBackUptoSaid : Prop := storeBackUptoRow.holds Tryz.pinned (OpenSpec.upto storeBackSpec)

/-- 'depotlaw17.StoreReach', WHERE WHAT IT READS IS OF BULK AT MOST 1048576: true; the input reads as it did. -/
def storeReachUptoRow : OpenClaim := { program := "ytmmmghpimdfleaagreatdoor", sum := "d0ae5033910601251cbb560f67375bd3edfb72b1c0f979d27f560bafb6cb51d7", func := "depot/depotlaw17.StoreReach", spec := "storeReach", inPlace := ["internal/bytealg.IndexByteString", "internal/bytealg.IndexString", "internal/abi.NoEscape", "internal/bytealg.MakeNoZero", "slices.overlaps[string]", "slices.overlaps[depot/api.Record]"], unfollowed := true, recurses := true, named := ["depot/sha.start", "depot/sha.rounds", "internal/bytealg.MaxLen"], loops := true, apart := false, laid := [("depot/sha.rounds", laid_depot_sha_rounds), ("depot/sha.start", laid_depot_sha_start)], narrowed := true }
def StoreReachUptoSaid : Prop := storeReachUptoRow.holds Tryz.pinned (OpenSpec.upto storeReachSpec)

/-- 'depotlaw19.SweepLives', WHERE WHAT IT READS IS OF BULK AT MOST 1048576: true; the input reads as it did. -/
def sweepLivesUptoRow : OpenClaim := { program := "ytmmmghpimdfleaagreatdoor", sum := "d0ae5033910601251cbb560f67375bd3edfb72b1c0f979d27f560bafb6cb51d7", func := "depot/depotlaw19.SweepLives", spec := "sweepLives", inPlace := ["internal/bytealg.IndexByteString", "internal/bytealg.IndexString", "internal/abi.NoEscape", "internal/bytealg.MakeNoZero", "slices.overlaps[string]", "slices.overlaps[depot/api.Record]"], unfollowed := true, recurses := true, named := ["depot/sha.start", "depot/sha.rounds", "internal/bytealg.MaxLen"], loops := true, apart := false, laid := [("depot/sha.rounds", laid_depot_sha_rounds), ("depot/sha.start", laid_depot_sha_start)], narrowed := true }
def SweepLivesUptoSaid : Prop := sweepLivesUptoRow.holds Tryz.pinned (OpenSpec.upto sweepLivesSpec)

/-- 'depotlaw19.SweepEnough', WHERE WHAT IT READS IS OF BULK AT MOST 1048576: true; the input reads as it did. -/
def sweepEnoughUptoRow : OpenClaim := { program := "ytmmmghpimdfleaagreatdoor", sum := "d0ae5033910601251cbb560f67375bd3edfb72b1c0f979d27f560bafb6cb51d7", func := "depot/depotlaw19.SweepEnough", spec := "sweepEnough", inPlace := ["internal/bytealg.IndexByteString", "internal/bytealg.IndexString", "internal/abi.NoEscape", "internal/bytealg.MakeNoZero", "slices.overlaps[string]", "slices.overlaps[depot/api.Record]"], unfollowed := true, recurses := true, named := ["depot/sha.start", "depot/sha.rounds", "internal/bytealg.MaxLen"], loops := true, apart := false, laid := [("depot/sha.rounds", laid_depot_sha_rounds), ("depot/sha.start", laid_depot_sha_start)], narrowed := true }
def SweepEnoughUptoSaid : Prop := sweepEnoughUptoRow.holds Tryz.pinned (OpenSpec.upto sweepEnoughSpec)

/-- 'depotlaw19.SweepGreatest', WHERE WHAT IT READS IS OF BULK AT MOST 1048576: true; the input reads as it did. -/
def sweepGreatestUptoRow : OpenClaim := { program := "ytmmmghpimdfleaagreatdoor", sum := "d0ae5033910601251cbb560f67375bd3edfb72b1c0f979d27f560bafb6cb51d7", func := "depot/depotlaw19.SweepGreatest", spec := "sweepGreatest", inPlace := ["internal/bytealg.IndexByteString", "internal/bytealg.IndexString", "internal/abi.NoEscape", "internal/bytealg.MakeNoZero", "slices.overlaps[string]", "slices.overlaps[depot/api.Record]"], unfollowed := true, recurses := true, named := ["depot/sha.start", "depot/sha.rounds", "internal/bytealg.MaxLen"], loops := true, apart := false, laid := [("depot/sha.rounds", laid_depot_sha_rounds), ("depot/sha.start", laid_depot_sha_start)], narrowed := true }
def SweepGreatestUptoSaid : Prop := sweepGreatestUptoRow.holds Tryz.pinned (OpenSpec.upto sweepGreatestSpec)

/-- 'depotlaw19.SweepKeeps', WHERE WHAT IT READS IS OF BULK AT MOST 1048576: true; the input reads as it did. -/
def sweepKeepsUptoRow : OpenClaim := { program := "ytmmmghpimdfleaagreatdoor", sum := "d0ae5033910601251cbb560f67375bd3edfb72b1c0f979d27f560bafb6cb51d7", func := "depot/depotlaw19.SweepKeeps", spec := "sweepKeeps", inPlace := ["internal/bytealg.IndexByteString", "internal/bytealg.IndexString", "internal/abi.NoEscape", "internal/bytealg.MakeNoZero", "slices.overlaps[string]", "slices.overlaps[depot/api.Record]"], unfollowed := true, recurses := true, named := ["depot/sha.start", "depot/sha.rounds", "internal/bytealg.MaxLen"], loops := true, apart := false, laid := [("depot/sha.rounds", laid_depot_sha_rounds), ("depot/sha.start", laid_depot_sha_start)], narrowed := true }
def SweepKeepsUptoSaid : Prop := sweepKeepsUptoRow.holds Tryz.pinned (OpenSpec.upto sweepKeepsSpec)

/-- 'depotlaw17.StoreOrders', WHERE WHAT IT READS IS OF BULK AT MOST 1048576: true; the input reads as it did. -/
def storeOrdersUptoRow : OpenClaim := { program := "ytmmmghpimdfleaagreatdoor", sum := "d0ae5033910601251cbb560f67375bd3edfb72b1c0f979d27f560bafb6cb51d7", func := "depot/depotlaw17.StoreOrders", spec := "storeOrders", inPlace := ["internal/bytealg.IndexByteString", "internal/bytealg.IndexString", "internal/abi.NoEscape", "internal/bytealg.MakeNoZero", "slices.overlaps[string]", "slices.overlaps[depot/api.Record]"], unfollowed := true, recurses := true, named := ["depot/sha.start", "depot/sha.rounds", "internal/bytealg.MaxLen"], loops := true, apart := false, laid := [("depot/sha.rounds", laid_depot_sha_rounds), ("depot/sha.start", laid_depot_sha_start)], narrowed := true }
def StoreOrdersUptoSaid : Prop := storeOrdersUptoRow.holds Tryz.pinned (OpenSpec.upto storeOrdersSpec)

/-- 'depotlaw19.SweepCollects', WHERE WHAT IT READS IS OF BULK AT MOST 1048576: true; the input reads as it did. -/
def sweepCollectsUptoRow : OpenClaim := { program := "ytmmmghpimdfleaagreatdoor", sum := "d0ae5033910601251cbb560f67375bd3edfb72b1c0f979d27f560bafb6cb51d7", func := "depot/depotlaw19.SweepCollects", spec := "sweepCollects", inPlace := ["internal/bytealg.IndexByteString", "internal/bytealg.IndexString", "internal/abi.NoEscape", "internal/bytealg.MakeNoZero", "slices.overlaps[string]", "slices.overlaps[depot/api.Record]"], unfollowed := true, recurses := true, named := ["depot/sha.start", "depot/sha.rounds", "internal/bytealg.MaxLen"], loops := true, apart := false, laid := [("depot/sha.rounds", laid_depot_sha_rounds), ("depot/sha.start", laid_depot_sha_start)], narrowed := true }
def SweepCollectsUptoSaid : Prop := sweepCollectsUptoRow.holds Tryz.pinned (OpenSpec.upto sweepCollectsSpec)

/-- 'depotlaw19.SweepSafe', WHERE WHAT IT READS IS OF BULK AT MOST 1048576: true; the input reads as it did. -/
def sweepSafeUptoRow : OpenClaim := { program := "ytmmmghpimdfleaagreatdoor", sum := "d0ae5033910601251cbb560f67375bd3edfb72b1c0f979d27f560bafb6cb51d7", func := "depot/depotlaw19.SweepSafe", spec := "sweepSafe", inPlace := ["internal/bytealg.IndexByteString", "internal/bytealg.IndexString", "internal/abi.NoEscape", "internal/bytealg.MakeNoZero", "slices.overlaps[string]", "slices.overlaps[depot/api.Record]"], unfollowed := true, recurses := true, named := ["depot/sha.start", "depot/sha.rounds", "internal/bytealg.MaxLen"], loops := true, apart := false, laid := [("depot/sha.rounds", laid_depot_sha_rounds), ("depot/sha.start", laid_depot_sha_start)], narrowed := true }
def SweepSafeUptoSaid : Prop := sweepSafeUptoRow.holds Tryz.pinned (OpenSpec.upto sweepSafeSpec)

/-- 'depotlaw17.StoreKeeps', WHERE WHAT IT READS IS OF BULK AT MOST 1048576: true; the input reads as it did. -/
def storeKeepsUptoRow : OpenClaim := { program := "ytmmmghpimdfleaagreatdoor", sum := "d0ae5033910601251cbb560f67375bd3edfb72b1c0f979d27f560bafb6cb51d7", func := "depot/depotlaw17.StoreKeeps", spec := "storeKeeps", inPlace := ["internal/bytealg.IndexByteString", "internal/bytealg.IndexString", "internal/abi.NoEscape", "internal/bytealg.MakeNoZero", "slices.overlaps[string]", "slices.overlaps[depot/api.Record]"], unfollowed := true, recurses := true, named := ["depot/sha.start", "depot/sha.rounds", "internal/bytealg.MaxLen"], loops := true, apart := false, laid := [("depot/sha.rounds", laid_depot_sha_rounds), ("depot/sha.start", laid_depot_sha_start)], narrowed := true }
def StoreKeepsUptoSaid : Prop := storeKeepsUptoRow.holds Tryz.pinned (OpenSpec.upto storeKeepsSpec)

/-- 'depotlaw17.StorePlays', WHERE WHAT IT READS IS OF BULK AT MOST 1048576: true; the input reads as it did. -/
def storePlaysUptoRow : OpenClaim := { program := "ytmmmghpimdfleaagreatdoor", sum := "d0ae5033910601251cbb560f67375bd3edfb72b1c0f979d27f560bafb6cb51d7", func := "depot/depotlaw17.StorePlays", spec := "storePlays", inPlace := ["internal/bytealg.IndexByteString", "internal/bytealg.IndexString", "internal/abi.NoEscape", "internal/bytealg.MakeNoZero", "slices.overlaps[string]", "slices.overlaps[depot/api.Record]"], unfollowed := true, recurses := true, named := ["depot/sha.start", "depot/sha.rounds", "internal/bytealg.MaxLen"], loops := true, apart := false, laid := [("depot/sha.rounds", laid_depot_sha_rounds), ("depot/sha.start", laid_depot_sha_start)], narrowed := true }
def StorePlaysUptoSaid : Prop := storePlaysUptoRow.holds Tryz.pinned (OpenSpec.upto storePlaysSpec)

end Rows
end Go.Proofs.YtmmmghpimdfleaaGreatDoor
