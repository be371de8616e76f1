/-
  Plain lists: the pieces of a line between blanks.
-/
import Derived.Test.YtgkdnnklcbacmaaDoorIdx
namespace Go.Proofs.YtgkdnnklcbacmaaDoor.SplitP
def pieces : List UInt8 → List (List UInt8)
  | [] => [[]]
  | c :: r => if c = 32 then [] :: pieces r else match pieces r with
    | p :: ps => (c :: p) :: ps
    | [] => [[c]]
theorem pieces_ne (l : List UInt8) : pieces l ≠ [] := by
  cases l with
  | nil => simp [pieces]
  | cons c r => unfold pieces; split; simp; split <;> simp
theorem first_nil (c : UInt8) : Idx.first [] c = -1 := rfl
theorem first_cons (x : UInt8) (r : List UInt8) (c : UInt8) : Idx.first (x :: r) c = if x = c then 0 else if Idx.first r c < 0 then -1 else Idx.first r c + 1 := by
  unfold Idx.first
  rw [List.findIdx?_cons]
  by_cases h : x = c
  · simp [h]
  · have : (x == c) = false := by simpa using h
    rw [this, if_neg h]
    cases r.findIdx? (· == c) with
    | none => simp
    | some i => simp; omega
theorem pieces_none : ∀ (l : List UInt8), Idx.first l 32 < 0 → pieces l = [l] := by
  intro l
  induction l with
  | nil => intro _; rfl
  | cons c r ih =>
    intro h
    rw [first_cons] at h
    by_cases hc : c = 32
    · rw [if_pos hc] at h; omega
    · rw [if_neg hc] at h
      have hr : Idx.first r 32 < 0 := by
        by_cases hr : Idx.first r 32 < 0
        · exact hr
        · rw [if_neg hr] at h; omega
      unfold pieces
      rw [if_neg hc, ih hr]
theorem pieces_some : ∀ (l : List UInt8) (i : Nat), Idx.first l 32 = i → pieces l = l.take i :: pieces (l.drop (i + 1)) := by
  intro l
  induction l with
  | nil => intro i h; rw [first_nil] at h; omega
  | cons c r ih =>
    intro i h
    rw [first_cons] at h
    by_cases hc : c = 32
    · rw [if_pos hc] at h
      obtain rfl : i = 0 := by omega
      conv => lhs; unfold pieces
      rw [if_pos hc]
      rfl
    · rw [if_neg hc] at h
      by_cases hr : Idx.first r 32 < 0
      · rw [if_pos hr] at h; omega
      · rw [if_neg hr] at h
        obtain ⟨j, rfl⟩ : ∃ j, i = j + 1 := ⟨i - 1, by omega⟩
        conv => lhs; unfold pieces
        rw [if_neg hc, ih j (by omega)]
        rfl
def bytes (l : List UInt8) : ByteArray := ⟨l.toArray⟩
def parts (s : ByteArray) : List ByteArray := (pieces s.data.toList).map bytes
theorem parts_none {s : ByteArray} (h : Idx.first s.data.toList 32 < 0) : parts s = [s] := by
  unfold parts
  rw [pieces_none _ h]
  rfl
theorem mem_pieces : ∀ (l p : List UInt8), p ∈ pieces l → p.length ≤ l.length := by
  intro l
  induction l with
  | nil => intro p h; simp [pieces] at h; subst h; simp
  | cons c r ih =>
    intro p h
    unfold pieces at h
    split at h
    · rcases List.mem_cons.1 h with rfl | h
      · simp
      · have := ih p h; simp; omega
    · split at h
      · rename_i q ps hq
        rcases List.mem_cons.1 h with rfl | h
        · have := ih q (by rw [hq]; simp); simp; omega
        · have := ih p (by rw [hq]; simp [h]); simp; omega
      · simp at h; subst h; simp
theorem length_pieces : ∀ (l : List UInt8), (pieces l).length ≤ l.length + 1 := by
  intro l
  induction l with
  | nil => simp [pieces]
  | cons c r ih =>
    unfold pieces
    split
    · simp; omega
    · split
      · rename_i p ps hp; rw [hp] at ih; simp at ih ⊢; omega
      · simp
end Go.Proofs.YtgkdnnklcbacmaaDoor.SplitP
