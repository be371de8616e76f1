/-
  strings.IndexByte: the first place of a byte, or -1.
-/
import Derived.Test.YtgkdnnklcbacmaaDoorProg
import Derived.WalkKit
import Derived.Laws.Externs
import Derived.Lib.Hide
import Derived.KernelRfl
set_option linter.unusedVariables false
namespace Go.Proofs.YtgkdnnklcbacmaaDoor.Idx
open Go.RowKit

theorem ext (s : ByteArray) (c : Int) (w : World) : (callFunc 34 #[.string s, .int .u8 c]).run Tryd.prog w = .ok (.value (.int .i64 (firstIdx s c.toNat.toUInt8))) w := by
  rw [run_callFunc_extern (e := Extern.BytealgIndexByte.indexByte) Tryd.func34 (by kernel_rfl) (by kernel_rfl) (by kernel_rfl) (by kernel_rfl), run_indexByte_string]
  rfl

theorem stringslite_IndexByte (s : ByteArray) (c : Int) (w : World) :
    Calls Tryd.prog 30 #[.string s, .int .u8 c] w fun e w' => e = .returned (.int .i64 (firstIdx s c.toNat.toUInt8)) ∧ w = w' := by
  have hx := ext
  go_enter Tryd.func30, Tryd.ntmps30
  go_wp2
  go_ret
  exact ⟨rfl, rfl⟩

theorem strings_IndexByte (s : ByteArray) (c : Int) (w : World) :
    Calls Tryd.prog 27 #[.string s, .int .u8 c] w fun e w' => e = .returned (.int .i64 (firstIdx s c.toNat.toUInt8)) ∧ w = w' := by
  go_enter Tryd.func27, Tryd.ntmps27
  go_wp2_with fail
  refine (stringslite_IndexByte _ _ _).mono ?_
  rintro e w1 ⟨rfl, rfl⟩
  go_wp2_with fail
  go_ret
  exact ⟨rfl, rfl⟩

/-- the first place of c in a list, or -1 -/
def first (l : List UInt8) (c : UInt8) : Int := match l.findIdx? (· == c) with | some i => i | none => -1

theorem find_range (n : Nat) : ∀ (p : Nat → Bool) (m : Nat), (List.range' m n).find? p = ((List.range' 0 n).find? fun i => p (m + i)).map (m + ·) := by
  induction n with
  | zero => intro p m; rfl
  | succ n ih =>
    intro p m
    rw [List.range'_succ, List.range'_succ, List.find?_cons, List.find?_cons, ih p (m + 1), ih (fun i => p (m + i)) (0 + 1)]
    by_cases h : p m
    · simp [h]
    · simp only [h, Nat.add_zero]
      rw [Option.map_map]
      have : (fun i => p (m + 1 + i)) = fun i => (fun i => p (m + i)) (0 + 1 + i) := by funext i; simp; congr 1; omega
      rw [this]
      congr 1
      funext i; simp; omega

theorem firstIdx_eq (s : ByteArray) (c : UInt8) : firstIdx s c = first s.data.toList c := by
  have key : ∀ l : List UInt8, (List.range l.length).find? (fun i => l[i]! == c) = l.findIdx? (· == c) := by
    intro l
    induction l with
    | nil => rfl
    | cons x r ih =>
      rw [List.length_cons, List.range_eq_range', List.range'_succ, List.find?_cons, List.findIdx?_cons]
      by_cases h : (x == c) = true
      · simp [h]
      · simp only [List.getElem!_cons_zero, h]
        rw [find_range]
        have : (fun i => (x :: r)[0 + 1 + i]! == c) = fun i => r[i]! == c := by funext i; rw [show 0 + 1 + i = i + 1 from by omega]; simp
        rw [this, ← List.range_eq_range', ih]
        cases r.findIdx? (· == c) <;> simp; omega
  have hs : s.size = s.data.toList.length := by simp
  have hg : (fun i : Nat => s[i]! == c) = fun i : Nat => s.data.toList[i]! == c := by
    funext i
    congr 1
    by_cases h : i < s.size
    · have h1 : s[i]! = s[i] := getElem!_pos s i h
      have h2 : s.data.toList[i]! = s.data.toList[i] := getElem!_pos _ i (by simpa using h)
      rw [h1, h2]; rfl
    · rw [getElem!_neg s i h, getElem!_neg s.data.toList i (by simpa using h)]
  unfold firstIdx first
  rw [hg, hs, key]
  cases s.data.toList.findIdx? (· == c) <;> rfl

theorem first_lt (l : List UInt8) (c : UInt8) : -1 ≤ first l c ∧ first l c < l.length := by
  unfold first
  split
  · rename_i i h
    have := (List.findIdx?_eq_some_iff_findIdx_eq.1 h).1
    omega
  · omega
end Go.Proofs.YtgkdnnklcbacmaaDoor.Idx
