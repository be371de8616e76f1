/-
  SweepLives: the walk of the law.
-/
import Derived.Test.YtmmmghpimdfleaaGreatDoorFrm
import Derived.Test.YtmmmghpimdfleaaGreatDoorGrpZA
import Derived.Test.YtmmmghpimdfleaaGreatDoorGrpZB
import Derived.Test.YtmmmghpimdfleaaGreatDoorGrpDD
set_option linter.unusedVariables false
set_option linter.unusedSimpArgs false
namespace Go.Proofs.YtmmmghpimdfleaaGreatDoor.sweepLives
open Go.RowKit Mem Tr St kU uI
open Go.Proofs.YtmmmghpimdfleaaGreatDoor.Own
open Go.Proofs.YtmmmghpimdfleaaGreatDoor.kD (dZ iZ Qq Vr)
theorem Ef(z:Int)(h:0<=z):BitVec.ofInt 32 z=BitVec.ofNat 32 z.toNat:=by
 obtain⟨n,rfl⟩:=Int.eq_ofNat_of_zero_le h;rfl
theorem oz:∀(l:List Int),l.all (fun z=>decide (0<=z))=true->∀j,0<=l.getD j 0
 | [],_,j=>by simp
 | x :: l,h,0=>by simp at h;simpa using h.1
 | x :: l,h,j+1=>by
  simp only[List.all_cons,Bool.and_eq_true]at h
  simpa using oz l h.2 j
theorem zbV:dZ=oG.rc:=by
 funext j;unfold kD.dZ oG.rc;rw[show oG.nums Rows.laid_depot_sha_rounds=Qq by kernel_rfl];exact Ef _ (oz _ (by kernel_rfl) j)
theorem zbW:iZ=oG.st:=by
 funext j;unfold kD.iZ oG.st;rw[show oG.nums Rows.laid_depot_sha_start=Vr by kernel_rfl];exact Ef _ (oz _ (by kernel_rfl) j)
end Go.Proofs.YtmmmghpimdfleaaGreatDoor.sweepLives
