/-
  The frame of a law: zd5 two tables as the program's text lays them, a world for the witness, and what every law's contract hands on.
-/
import Derived.Test.YtmmmghpimdfleaaGreatDoorCards
import Derived.Test.YtmmmghpimdfleaaGreatDoorTie
import Derived.Test.YtmmmghpimdfleaaGreatDoorOpen
import Derived.Test.YtmmmghpimdfleaaGreatDoorGrpJ
import Derived.Deep.DeepHandedRow
import Derived.ProofKit
import Derived.LaidLaws
import Derived.Lib.LaidTab
import Derived.Stop.LaidErr
import Derived.Carry
set_option linter.unusedVariables false
namespace Go.Proofs.YtmmmghpimdfleaaGreatDoor.oG
open Go.ChangeShapes Go.WideShapes Go.ChangeAt Go.RowKit
def nums:DataW Unit->List Int
 | .agg l=>l.map fun d=>match d with | .lit (.int _ n)=>n|_=>0
 | _=>[]
mutual
def flat:DataW Unit->List Value
 | .lit (.int k n)=>[.int k n]
 | .agg parts=>Tc parts
 | _=>[]
def Tc:List (DataW Unit)->List Value
 | []=>[]
 | d :: r=>flat d++Tc r
end
/-- the settled world, block b holding the cells cs -/
def lay(cs:Array Value):Obj->Obj
 | .cells _ t frozen=>.cells cs t frozen
 | o=>o
noncomputable def world(os:Os):World :=
 { World.holding Tryz.prog os ⟨#[],#[],[]⟩with heap:=((World.holding Tryz.prog os ⟨#[],#[],[]⟩).heap.modify 1 (lay (flat Rows.laid_depot_sha_rounds).toArray)).modify 0 (lay (flat Rows.laid_depot_sha_start).toArray) }
def laid : List (String × DataW Unit) := [("depot/sha.rounds", Rows.laid_depot_sha_rounds), ("depot/sha.start", Rows.laid_depot_sha_start)]
theorem met(os:Os)(args:Array Value):laidMet Tryz.prog laid ((world os).forCall (fun _ _=>0) ⟨#[],args,[]⟩).memory :=
 laidMet_of_run' 8 (by kernel_rfl) (by kernel_rfl)
theorem UT{a b:Bool}(h1:a=true)(h2:b=true):(a&&b)=true:=by rw[h1,h2];rfl
theorem laidOut:laidOutB Tryz.prog=true:=by kernel_rfl
theorem rowed:mapsRowed Tryz.prog=true:=by kernel_rfl
theorem own:ownKnob Tryz.prog.godebug=none:=by kernel_rfl
def rc(j:Nat):BitVec 32:=BitVec.ofNat 32 ((nums Rows.laid_depot_sha_rounds).getD j 0).toNat
def st(j:Nat):BitVec 32:=BitVec.ofNat 32 ((nums Rows.laid_depot_sha_start).getD j 0).toNat
theorem Za:∀j,j<64->(nums Rows.laid_depot_sha_rounds).getD j 0=((rc j).toNat:Int):=by
 have:((List.range 64).all fun j=>decide ((nums Rows.laid_depot_sha_rounds).getD j 0=((rc j).toNat:Int)))=true:=(by kernel_rfl);intro j hj;exact of_decide_eq_true (List.all_eq_true.1 this j (List.mem_range.2 hj))
theorem Zb:∀j,j<8->(nums Rows.laid_depot_sha_start).getD j 0=((st j).toNat:Int):=by
 have:((List.range 8).all fun j=>decide ((nums Rows.laid_depot_sha_start).getD j 0=((st j).toNat:Int)))=true:=(by kernel_rfl);intro j hj;exact of_decide_eq_true (List.all_eq_true.1 this j (List.mem_range.2 hj))
theorem g_rounds : Tryz.prog.globalNamed "depot/sha.rounds" = some 1 := by kernel_rfl
theorem g_start : Tryz.prog.globalNamed "depot/sha.start" = some 0 := by kernel_rfl
theorem KY:(Tryz.prog.globals[(1:Nat)]?).map (·.type)=some 265:=by kernel_rfl
theorem PY:(Tryz.prog.globals[(0:Nat)]?).map (·.type)=some 208:=by kernel_rfl

/-- The two tables lie in every world in which a law is called. -/
theorem gl {w : World} (h : laidMetH Tryz.prog laid w) : Sum.Gl rc st w := by
  have h0 : laidMet Tryz.prog (("depot/sha.rounds", Lib.tabData .u32 (nums Rows.laid_depot_sha_rounds)) :: [("depot/sha.start", Lib.tabData .u32 (nums Rows.laid_depot_sha_start))]) w := h
  have h1 := Lib.tabIs_of_head g_rounds KY Tryz.underlying265 Tryz.underlying207 (by kernel_rfl) (by kernel_rfl) h0
  have h2 := Lib.tabIs_of_head g_start PY Tryz.underlying208 Tryz.underlying207 (by kernel_rfl) (by kernel_rfl) (laidMet.tail h0)
  refine ⟨fun j hj => ?_, fun j hj => ?_⟩
  · rw [← Za j hj]
    exact h1.cell g_rounds j (by have : (nums Rows.laid_depot_sha_rounds).length = 64 := by kernel_rfl
                                 omega)
  · rw [← Zb j hj]
    exact h2.cell g_start j (by have : (nums Rows.laid_depot_sha_start).length = 8 := by kernel_rfl
                                omega)
end Go.Proofs.YtmmmghpimdfleaaGreatDoor.oG
