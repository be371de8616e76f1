/-
  Plain lists: a text as one word.
-/
import Derived.Test.YtgkdnnklcbacmaaDoorHexP
namespace Go.Proofs.YtgkdnnklcbacmaaDoor.EscP
open HexP
def plainB (c : UInt8) : Bool := decide (33 ≤ c.toNat ∧ c.toNat ≤ 126 ∧ c.toNat ≠ 37)
def escB (c : UInt8) : List UInt8 := if plainB c then [c] else 37 :: two c
def escs (l : List UInt8) : List UInt8 := l.flatMap escB
def esc (l : List UInt8) : List UInt8 := if l = [] then [37] else escs l
theorem escB_length (c : UInt8) : (escB c).length ≤ 3 := by unfold escB two; split <;> simp
theorem escs_length (l : List UInt8) : (escs l).length ≤ 3 * l.length := by
  induction l with
  | nil => simp [escs]
  | cons c r ih => have := escB_length c; simp [escs] at ih ⊢; omega
theorem escs_snoc (l : List UInt8) (c : UInt8) : escs (l ++ [c]) = escs l ++ escB c := by simp [escs]
theorem escB_yes {c : UInt8} (h : plainB c = true) : escB c = [c] := by simp [escB, h]
theorem escB_no {c : UInt8} (h : plainB c = false) : escB c = 37 :: two c := by simp [escB, h]
theorem plainB_iff (c : UInt8) : plainB c = true ↔ (33 ≤ c.toNat ∧ c.toNat ≤ 126 ∧ c.toNat ≠ 37) := by simp [plainB]
end Go.Proofs.YtgkdnnklcbacmaaDoor.EscP
