/-
  Plain lists: the words of a line.
-/
import Derived.Test.YtgkdnnklcbacmaaDoorSplitP
import Derived.Test.YtgkdnnklcbacmaaDoorPlainP
import Derived.Lib.Strings
namespace Go.Proofs.YtgkdnnklcbacmaaDoor.WordsP
open SplitP PlainP

def strV (l : List UInt8) : Value := .string ⟨l.toArray⟩

/-- the words of pieces, if all are words -/
def all : List ByteArray → Option (List (List UInt8))
  | [] => some []
  | x :: r => match word x.data.toList, all r with
    | some a, some b => some (a :: b)
    | _, _ => none
theorem all_snoc (pre : List ByteArray) (x : ByteArray) : all (pre ++ [x]) = match all pre, word x.data.toList with | some a, some b => some (a ++ [b]) | _, _ => none := by
  induction pre with
  | nil => simp only [List.nil_append, all]; cases word x.data.toList <;> rfl
  | cons y r ih =>
    simp only [List.cons_append, all, ih]
    cases word y.data.toList with
    | none => rfl
    | some a => cases all r with
      | none => rfl
      | some b => cases word x.data.toList <;> rfl
theorem all_pre_none {pre xs : List ByteArray} (h : all pre = none) (hp : pre <+: xs) : all xs = none := by
  obtain ⟨t, rfl⟩ := hp
  induction pre with
  | nil => simp [all] at h
  | cons y r ih =>
    simp only [List.cons_append, all] at h ⊢
    cases hw : word y.data.toList with
    | none => rfl
    | some a =>
      rw [hw] at h
      cases hr : all r with
      | none => rw [ih hr]
      | some b => rw [hr] at h; simp at h
theorem all_length : ∀ {xs : List ByteArray} {ws : List (List UInt8)}, all xs = some ws → ws.length = xs.length := by
  intro xs
  induction xs with
  | nil => intro ws h; simp [all] at h; subst h; rfl
  | cons x r ih =>
    intro ws h
    simp only [all] at h
    cases hw : word x.data.toList with
    | none => rw [hw] at h; simp at h
    | some a => rw [hw] at h; cases hr : all r with
      | none => rw [hr] at h; simp at h
      | some b => rw [hr] at h; simp at h; subst h; simp [ih hr]

def words (l : ByteArray) : List (List UInt8) × Int := if l.size > 4096 then ([], 6) else match all (parts l) with | some ws => (ws, 0) | none => ([], 251)


/-- no blank among the first m -/
def NoB (l : List UInt8) (m : Nat) : Prop := ∀ j, j < m → l[j]? ≠ some 32
theorem first_at : ∀ (l : List UInt8) (m : Nat), NoB l m → l[m]? = some 32 → Idx.first l 32 = m := by
  intro l
  induction l with
  | nil => intro m _ h; simp at h
  | cons c r ih =>
    intro m hn h
    rw [first_cons]
    cases m with
    | zero =>
      simp at h
      rw [if_pos h]; rfl
    | succ m =>
      have hc : c ≠ 32 := fun e => hn 0 (by omega) (by simp [e])
      have h1 := ih m (fun j hj => by have := hn (j + 1) (by omega); simpa using this) (by simpa using h)
      rw [if_neg hc, h1, if_neg (by omega)]
      omega
theorem first_out : ∀ (l : List UInt8), NoB l l.length → Idx.first l 32 < 0 := by
  intro l
  induction l with
  | nil => intro _; rw [first_nil]; omega
  | cons c r ih =>
    intro hn
    have hc : c ≠ 32 := fun e => hn 0 (by simp) (by simp [e])
    have h1 := ih (fun j hj => by have := hn (j + 1) (by simp; omega); simpa using this)
    rw [first_cons, if_neg hc, if_pos h1]
    omega
/-- the parts of what is left -/
def rest (s : ByteArray) (f : Nat) : List ByteArray := (pieces (s.data.toList.drop f)).map SplitP.bytes
theorem rest_zero (s : ByteArray) : rest s 0 = parts s := rfl
theorem rest_cut (s : ByteArray) (f k : Nat) (hf : f ≤ k) (hk : s.data.toList[k]? = some 32) (hn : NoB (s.data.toList.drop f) (k - f)) : rest s f = s.extract f k :: rest s (k + 1) := by
  unfold rest
  have h1 := first_at _ (k - f) hn (by rw [List.getElem?_drop, show f + (k - f) = k from by omega]; exact hk)
  rw [pieces_some _ _ h1, List.map_cons, List.drop_drop, show f + (k - f + 1) = k + 1 from by omega]
  congr 1
  unfold SplitP.bytes
  rw [Lib.extract_eq]
theorem rest_end (s : ByteArray) (f : Nat) (hn : NoB (s.data.toList.drop f) (s.size - f)) : rest s f = [s.extract f s.size] := by
  unfold rest
  have h1 := first_out (s.data.toList.drop f) (by rw [List.length_drop, ← Lib.size_eq]; exact hn)
  rw [pieces_none _ h1, List.map_cons, List.map_nil]
  congr 1
  unfold SplitP.bytes
  rw [Lib.extract_eq, List.take_of_length_le (by simp)]
end Go.Proofs.YtgkdnnklcbacmaaDoor.WordsP
