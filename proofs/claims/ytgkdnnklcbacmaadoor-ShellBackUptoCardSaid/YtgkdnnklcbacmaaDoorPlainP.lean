/-
  Plain lists: the text that a word stands for.
-/
import Derived.Test.YtgkdnnklcbacmaaDoorUnhP
import Derived.Test.YtgkdnnklcbacmaaDoorEscP
namespace Go.Proofs.YtgkdnnklcbacmaaDoor.PlainP
open HexP UnhP EscP
def un : List UInt8 → Option (List UInt8)
  | [] => some []
  | [c] => if c = 37 then none else some [c]
  | [c, a] => if c = 37 then none else (un [a]).map (c :: ·)
  | c :: a :: b :: t => if c = 37 then (if (unhex [a, b]).2 = 0 then (un t).map ((unhex [a, b]).1 ++ ·) else none) else (un (a :: b :: t)).map (c :: ·)
theorem un_nil : un [] = some [] := by rw [un]
theorem un_byte {c : UInt8} {r : List UInt8} (h : c ≠ 37) : un (c :: r) = (un r).map (c :: ·) := by
  match r with
  | [] =>
    rw [un_nil]
    conv => lhs; rw [un, if_neg h]
    rfl
  | [a] => conv => lhs; rw [un, if_neg h]
  | a :: b :: t => rw [un, if_neg h]
theorem un_none : un [37] = none := by rw [un]; rfl
theorem un_one (a : UInt8) : un [37, a] = none := by rw [un]; rfl
theorem un_two (a b : UInt8) (t : List UInt8) : un (37 :: a :: b :: t) = if (unhex [a, b]).2 = 0 then (un t).map ((unhex [a, b]).1 ++ ·) else none := by rw [un]; rfl
/-- the text of a word, if it is one -/
def word (l : List UInt8) : Option (List UInt8) := if l = [37] then some [] else if l = [] then none else un l
theorem unhex_two_len (a b : UInt8) (h : (unhex [a, b]).2 = 0) : (unhex [a, b]).1.length = 1 := by
  unfold unhex at h ⊢
  split
  · rename_i h1; rw [if_pos h1] at h; simp at h
  · split
    · rename_i h1 h2; rw [if_neg h1, if_pos h2] at h; simp at h
    · simp [acc]
theorem unhex_nil : unhex [] = ([], 0) := by simp [unhex, acc]
theorem unhex_one (a : UInt8) : unhex [a] = ([], 21) := by simp [unhex]
theorem unhex_err (l : List UInt8) (h : (unhex l).2 ≠ 0) : (unhex l).1 = [] := by
  unfold unhex at h ⊢
  split
  · rfl
  · split
    · rfl
    · rename_i h1 h2; rw [if_neg h1, if_neg h2] at h; simp at h
end Go.Proofs.YtgkdnnklcbacmaaDoor.PlainP
