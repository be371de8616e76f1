/-
  THE WALKS OF BOTH Score FUNCTIONS: each gives the quotient of the two nearest floats, a number below 0 counting as 0.
-/
import Derived.Test.YtgkdnnklcbacmaaRows
import Derived.Test.YtgkdnnklcbacmaaFloat
import Derived.WalkKit
import Derived.ProofKit
import Derived.OpenShut
import Derived.WalkLawsBesides
import Derived.Laws.FloatArith
namespace Go.Proofs.Ytgkdnnklcbacmaa.sweepScores
open Go.ChangeShapes Go.WideShapes Go.ChangeAt Go.RowKit
/-- a number, what is below 0 as 0 -/
def up (a : Int) : Int := if a < 0 then 0 else a
theorem up_neg {a : Int} (h : a < 0) : up a = 0 := if_pos h
theorem up_pos {a : Int} (h : 0 ≤ a) : up a = a := if_neg (by omega)
/-- Both steps of a score are valid, and come to r. -/
def Comes (a0 a1 : Int) (r : Nat) : Prop := ∃ b, floatBits .add .f64 (floatOfInt .f64 (up a1)) 4607182418800017408 = some b ∧ floatBits .quo .f64 (floatOfInt .f64 (up a0)) b = some r

theorem comes_some (a0 a1 : Int) (h0 : a0 < 9223372036854775808) (h1 : a1 < 9223372036854775808) : ∃ r, Comes a0 a1 r := by
  have hu : ∀ a : Int, a < 9223372036854775808 → ∃ n : Nat, up a = n ∧ n < 2 ^ 63 := by
    intro a ha
    unfold up
    split
    · exact ⟨0, rfl, by decide⟩
    · exact ⟨a.toNat, by omega, by omega⟩
  obtain ⟨s, hs, hs'⟩ := hu a0 h0
  obtain ⟨u, hu, hu'⟩ := hu a1 h1
  obtain ⟨b, r, hb, hr⟩ := F.score_some s u hs' hu'
  exact ⟨r, b, by rw [hu]; exact hb, by rw [hs]; exact hr⟩

theorem comes_ten : Comes 10 3 4612811918334230528 := by
  obtain ⟨b, hb, hr⟩ := F.score_ten
  exact ⟨b, hb, hr⟩

theorem score_any (a0 a1 : Int) (w : World) (r : Nat) (hc : Comes a0 a1 r) :
    Calls Try.prog 4 #[.int .i64 a0, .int .i64 a1] w fun e w' => e = .returned (.float .f64 r) ∧ w = w' := by
  obtain ⟨b, hb, hr⟩ := hc
  have ha := fun w => run_float_arith (P := Try.prog) w .add 22 .f64 _ _ _ hb
  have hq := fun w => run_float_arith (P := Try.prog) w .quo 22 .f64 _ _ _ hr
  clear hb hr
  by_cases h0 : a0 < 0 <;> by_cases h1 : a1 < 0
  · rw [up_neg h0] at hq; rw [up_neg h1] at ha
    go_enter Try.func4, Try.ntmps4
    go_wp2
    go_ret
    exact ⟨rfl, rfl⟩
  · rw [up_neg h0] at hq; rw [up_pos (by omega)] at ha
    go_enter Try.func4, Try.ntmps4
    go_wp2
    go_ret
    exact ⟨rfl, rfl⟩
  · rw [up_pos (by omega)] at hq; rw [up_neg h1] at ha
    go_enter Try.func4, Try.ntmps4
    go_wp2
    go_ret
    exact ⟨rfl, rfl⟩
  · rw [up_pos (by omega)] at hq; rw [up_pos (by omega)] at ha
    go_enter Try.func4, Try.ntmps4
    go_wp2
    go_ret
    exact ⟨rfl, rfl⟩

theorem ref_any (a0 a1 : Int) (w : World) (r : Nat) (hc : Comes a0 a1 r) :
    Calls Try.prog 6 #[.int .i64 a0, .int .i64 a1] w fun e w' => e = .returned (.float .f64 r) ∧ w = w' := by
  obtain ⟨b, hb, hr⟩ := hc
  have ha := fun w => run_float_arith (P := Try.prog) w .add 22 .f64 _ _ _ hb
  have hq := fun w => run_float_arith (P := Try.prog) w .quo 22 .f64 _ _ _ hr
  clear hb hr
  by_cases h0 : a0 < 0 <;> by_cases h1 : a1 < 0
  · rw [up_neg h0] at hq; rw [up_neg h1] at ha
    go_enter Try.func6, Try.ntmps6
    go_wp2
    go_ret
    exact ⟨rfl, rfl⟩
  · rw [up_neg h0] at hq; rw [up_pos (by omega)] at ha
    go_enter Try.func6, Try.ntmps6
    go_wp2
    go_ret
    exact ⟨rfl, rfl⟩
  · rw [up_pos (by omega)] at hq; rw [up_neg h1] at ha
    go_enter Try.func6, Try.ntmps6
    go_wp2
    go_ret
    exact ⟨rfl, rfl⟩
  · rw [up_pos (by omega)] at hq; rw [up_pos (by omega)] at ha
    go_enter Try.func6, Try.ntmps6
    go_wp2
    go_ret
    exact ⟨rfl, rfl⟩
end Go.Proofs.Ytgkdnnklcbacmaa.sweepScores
