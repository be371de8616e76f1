/-
  Plain lists: the two hexadecimal digits of each byte.
-/
namespace Go.Proofs.YtgkdnnklcbacmaaDoor.HexP
/-- the digit of 0 to 15 -/
def dig (v : Nat) : UInt8 := if v < 10 then UInt8.ofNat (48 + v) else UInt8.ofNat (87 + v)
def two (c : UInt8) : List UInt8 := [dig (c.toNat / 16), dig (c.toNat % 16)]
def hexL (l : List UInt8) : List UInt8 := l.flatMap two
theorem hexL_length (l : List UInt8) : (hexL l).length = 2 * l.length := by
  induction l with
  | nil => rfl
  | cons c r ih => simp [hexL, two] at ih ⊢; omega
theorem hexL_snoc (l : List UInt8) (c : UInt8) : hexL (l ++ [c]) = hexL l ++ two c := by simp [hexL]
def digits : List UInt8 := [48, 49, 50, 51, 52, 53, 54, 55, 56, 57, 97, 98, 99, 100, 101, 102]
theorem digits_get (v : Nat) (h : v < 16) : digits[v]? = some (dig v) := by
  have : ∀ v : Fin 16, digits[v.val]? = some (dig v.val) := by decide
  exact this ⟨v, h⟩
end Go.Proofs.YtgkdnnklcbacmaaDoor.HexP
