/-
  Plain lists: the bytes that pairs of hexadecimal digits stand for.
-/
import Derived.Test.YtgkdnnklcbacmaaDoorHexP
import Derived.Test.YtgkdnnklcbacmaaDoorIdx
namespace Go.Proofs.YtgkdnnklcbacmaaDoor.UnhP
open HexP
/-- the value of a digit, or -1 -/
def hv (c : UInt8) : Int := Idx.first digits c
theorem hv_bd (c : UInt8) : -1 ≤ hv c ∧ hv c ≤ 15 := by
  have := Idx.first_lt digits c
  have h : digits.length = 16 := rfl
  unfold hv; omega
def hn (l : List UInt8) (i : Nat) : Nat := match l[i]? with | some c => (hv c).toNat | none => 0
theorem hn_lt (l : List UInt8) (i : Nat) : hn l i < 16 := by
  unfold hn
  split
  · rename_i c _; have := hv_bd c; omega
  · omega
/-- what stands at place j of the result when k digits have been read -/
def cv (l : List UInt8) (k j : Nat) : Nat := if 2 * j + 1 < k then 16 * hn l (2 * j) + hn l (2 * j + 1) else if 2 * j < k then hn l (2 * j) else 0
theorem cv_lt (l : List UInt8) (k j : Nat) : cv l k j < 256 := by
  have := hn_lt l (2 * j); have := hn_lt l (2 * j + 1)
  unfold cv; split
  · omega
  · split <;> omega
theorem cv_at (l : List UInt8) (k : Nat) : cv l k (k / 2) < 16 ∧ cv l (k + 1) (k / 2) = 16 * cv l k (k / 2) + hn l k := by
  have h1 := hn_lt l (2 * (k / 2))
  have h2 := hn_lt l k
  unfold cv
  rcases Nat.mod_two_eq_zero_or_one k with h | h
  · have e : 2 * (k / 2) = k := by omega
    rw [e, if_neg (by omega), if_neg (by omega), if_neg (by omega), if_pos (by omega)]
    omega
  · have e : 2 * (k / 2) + 1 = k := by omega
    rw [e, if_neg (by omega), if_pos (by omega), if_pos (by omega)]
    omega
theorem cv_other (l : List UInt8) (k j : Nat) (h : j ≠ k / 2) : cv l (k + 1) j = cv l k j := by
  unfold cv
  by_cases h1 : 2 * j + 1 < k
  · rw [if_pos h1, if_pos (by omega)]
  · rw [if_neg h1, if_neg (by omega)]
    by_cases h2 : 2 * j < k
    · omega
    · rw [if_neg h2, if_neg (by omega)]
def acc (l : List UInt8) (k m : Nat) : List UInt8 := (List.range m).map fun j => UInt8.ofNat (cv l k j)
theorem acc_length (l : List UInt8) (k m : Nat) : (acc l k m).length = m := by simp [acc]
theorem acc_zero (l : List UInt8) (m : Nat) : acc l 0 m = List.replicate m 0 := by
  unfold acc
  apply List.ext_getElem
  · simp
  · intro i h1 h2
    simp [cv]
theorem acc_get (l : List UInt8) (k m i : Nat) : (acc l k m)[i]? = if i < m then some (UInt8.ofNat (cv l k i)) else none := by
  unfold acc
  rw [List.getElem?_map]
  by_cases h : i < m
  · rw [if_pos h, List.getElem?_range h]; rfl
  · rw [if_neg h, List.getElem?_eq_none (by simp; omega)]; rfl
theorem acc_succ (l : List UInt8) (k m : Nat) : acc l (k + 1) m = (acc l k m).set (k / 2) (UInt8.ofNat (16 * cv l k (k / 2) + hn l k)) := by
  apply List.ext_getElem?
  intro i
  rw [List.getElem?_set, acc_length, acc_get, acc_get]
  by_cases h : k / 2 = i
  · subst h
    rw [if_pos rfl, (cv_at l k).2]
  · rw [if_neg h, cv_other l k i (fun e => h e.symm)]
/-- the bytes, and the error's number -/
def unhex (l : List UInt8) : List UInt8 × Int := if l.length % 2 = 1 then ([], 21) else if l.any (fun c => decide (hv c < 0)) then ([], 20) else (acc l l.length (l.length / 2), 0)
theorem or_nib (x v : Nat) (hx : x < 16) (hv : v < 16) : bits BinOp.or IntKind.u8 ((16 * x : Nat) : Int) (v : Int) = ((16 * x + v : Nat) : Int) := by
  have : ∀ x v : Fin 16, bits BinOp.or IntKind.u8 ((16 * x.val : Nat) : Int) (v.val : Int) = ((16 * x.val + v.val : Nat) : Int) := by decide +kernel
  exact this ⟨x, hx⟩ ⟨v, hv⟩
theorem or_val (x : Nat) (h : Int) (n : Nat) (hx : x < 16) (hh : h = n) (hn : n < 16) : bits BinOp.or IntKind.u8 ((x : Int) * 16 % 256) h = (((UInt8.ofNat (16 * x + n)).toNat : Nat) : Int) := by
  subst hh
  have e : ((x : Int) * 16 % 256) = ((16 * x : Nat) : Int) := by omega
  rw [e, or_nib x n hx hn]
  congr 1
  rw [UInt8.toNat_ofNat']
  omega
theorem hn_at {l : List UInt8} {k : Nat} {c : UInt8} (h : l[k]? = some c) (hc : 0 ≤ hv c) : hv c = (hn l k : Int) := by
  unfold hn
  rw [h]
  simp only
  omega
theorem unhex_odd {l : List UInt8} (h : l.length % 2 = 1) : unhex l = ([], 21) := by unfold unhex; rw [if_pos h]
theorem unhex_bad {l : List UInt8} (h : ¬ l.length % 2 = 1) {k : Nat} {c : UInt8} (hk : l[k]? = some c) (hc : hv c < 0) : unhex l = ([], 20) := by
  unfold unhex
  rw [if_neg h, if_pos]
  rw [List.any_eq_true]
  exact ⟨c, List.mem_of_getElem? hk, by simpa using hc⟩
theorem unhex_good {l : List UInt8} (h : ¬ l.length % 2 = 1) (hall : ∀ j c, j < l.length → l[j]? = some c → 0 ≤ hv c) : unhex l = (acc l l.length (l.length / 2), 0) := by
  unfold unhex
  rw [if_neg h, if_neg]
  rw [List.any_eq_true]
  rintro ⟨c, hc, hneg⟩
  obtain ⟨j, hj, rfl⟩ := List.getElem_of_mem hc
  have := hall j _ hj (List.getElem?_eq_getElem hj)
  simp at hneg
  omega
end Go.Proofs.YtgkdnnklcbacmaaDoor.UnhP
