/-
  Plain lists: texts are got back from the line of their words.
-/
import Derived.Test.YtgkdnnklcbacmaaDoorWordsP
import Derived.Test.YtgkdnnklcbacmaaDoorEscP
namespace Go.Proofs.YtgkdnnklcbacmaaDoor.BackP
open HexP EscP UnhP PlainP SplitP WordsP

theorem unhex_two (c : UInt8) : unhex (two c) = ([c], 0) := by
  have key : ∀ c : Fin 256, unhex (two (UInt8.ofNat c.val)) = ([UInt8.ofNat c.val], 0) := by decide +kernel
  have := key ⟨c.toNat, c.toNat_lt⟩
  simpa using this

theorem un_escB (c : UInt8) (r : List UInt8) : un (escB c ++ r) = (un r).map (c :: ·) := by
  by_cases h : plainB c = true
  · rw [escB_yes h]
    have hc : c ≠ 37 := by
      rintro rfl
      exact absurd h (by decide)
    exact un_byte hc
  · have h' : plainB c = false := by simpa using h
    rw [escB_no h']
    have := unhex_two c
    show un (37 :: dig (c.toNat / 16) :: dig (c.toNat % 16) :: r) = _
    have h2 : [dig (c.toNat / 16), dig (c.toNat % 16)] = two c := rfl
    rw [un_two, h2, this, if_pos rfl]
    rfl

theorem un_escs (l : List UInt8) : un (escs l) = some l := by
  induction l with
  | nil => exact un_nil
  | cons c r ih =>
    show un (escB c ++ escs r) = _
    rw [un_escB, ih]
    rfl

theorem escB_ne (c : UInt8) (r : List UInt8) : escB c ++ r ≠ [37] := by
  by_cases h : plainB c = true
  · rw [escB_yes h]
    intro e
    have hc : c = 37 := by simpa using (List.cons.inj e).1
    rw [hc] at h
    exact absurd h (by decide)
  · have h' : plainB c = false := by simpa using h
    rw [escB_no h']
    simp [two]

theorem word_esc (l : List UInt8) : word (esc l) = some l := by
  cases l with
  | nil => rfl
  | cons c r =>
    have he : esc (c :: r) = escB c ++ escs r := by unfold esc; rw [if_neg (by simp)]; rfl
    have h2 : escB c ++ escs r ≠ [] := by
      intro e
      have h1 : (escB c).length ≠ 0 := by unfold escB two; split <;> simp
      simp at e
      rw [e.1] at h1; simp at h1
    unfold word
    rw [he, if_neg (escB_ne c _), if_neg h2]
    exact un_escs (c :: r)

def okB (c : UInt8) : Bool := decide (33 ≤ c.toNat ∧ c.toNat ≤ 126)
theorem escB_ok (c : UInt8) : ∀ x ∈ escB c, okB x = true := by
  have key : ∀ c : Fin 256, ((escB (UInt8.ofNat c.val)).all okB) = true := by decide +kernel
  have := key ⟨c.toNat, c.toNat_lt⟩
  simp only [UInt8.ofNat_toNat] at this
  exact List.all_eq_true.1 this
theorem esc_ok (l : List UInt8) : ∀ x ∈ esc l, okB x = true := by
  intro x hx
  unfold esc at hx
  split at hx
  · simp at hx; subst hx; decide
  · obtain ⟨c, _, hc⟩ := List.mem_flatMap.1 hx
    exact escB_ok c x hc

def jn : List (List UInt8) → List UInt8
  | [] => []
  | [x] => esc x
  | x :: y :: r => esc x ++ 32 :: jn (y :: r)
theorem jn_snoc : ∀ (l : List (List UInt8)) (x : List UInt8), jn (l ++ [x]) = if l = [] then esc x else jn l ++ 32 :: esc x := by
  intro l x
  match l with
  | [] => simp [jn]
  | [a] => simp [jn]
  | a :: b :: r =>
    have ih := jn_snoc (b :: r) x
    rw [if_neg (by simp)] at ih ⊢
    simp only [List.cons_append] at ih ⊢
    rw [jn, ih, jn]
    simp
theorem pieces_stop : ∀ (p r : List UInt8), (∀ x ∈ p, okB x = true) → pieces (p ++ 32 :: r) = p :: pieces r := by
  intro p
  induction p with
  | nil => intro r _; simp [pieces]
  | cons c t ih =>
    intro r h
    have hc : c ≠ 32 := by rintro rfl; exact absurd (h 32 (by simp)) (by decide)
    rw [List.cons_append, pieces, if_neg hc, ih r (fun x hx => h x (by simp [hx]))]
theorem pieces_end : ∀ (p : List UInt8), (∀ x ∈ p, okB x = true) → pieces p = [p] := by
  intro p
  induction p with
  | nil => intro _; rfl
  | cons c t ih =>
    intro h
    have hc : c ≠ 32 := by rintro rfl; exact absurd (h 32 (by simp)) (by decide)
    rw [pieces, if_neg hc, ih (fun x hx => h x (by simp [hx]))]
theorem pieces_jn : ∀ (ls : List (List UInt8)), ls ≠ [] → pieces (jn ls) = ls.map esc := by
  intro ls
  match ls with
  | [] => intro h; exact absurd rfl h
  | [x] => intro _; rw [jn, pieces_end _ (esc_ok x)]; rfl
  | x :: y :: r =>
    intro _
    have ih := pieces_jn (y :: r) (by simp)
    rw [jn, pieces_stop _ _ (esc_ok x), ih]
    rfl
theorem all_esc : ∀ (ls : List (List UInt8)), all ((ls.map esc).map SplitP.bytes) = some ls := by
  intro ls
  induction ls with
  | nil => rfl
  | cons x r ih =>
    rw [List.map_cons, List.map_cons, all, ih]
    have : (SplitP.bytes (esc x)).data.toList = esc x := by simp [SplitP.bytes]
    rw [this, word_esc]
/-- The words of the line of texts' words are the texts. -/
theorem words_jn (ls : List (List UInt8)) (h : ls ≠ []) (s : ByteArray) (hs : s.data.toList = jn ls) (hl : ¬ 4096 < s.size) : words s = (ls, 0) := by
  unfold words parts
  rw [if_neg hl, hs, pieces_jn ls h, all_esc]
theorem words_none (s : ByteArray) (hs : s.data.toList = []) : words s = ([], 251) := by
  unfold words parts
  have h0 : s.size = 0 := by rw [Lib.size_eq, hs]; rfl
  rw [if_neg (by omega), hs]
  simp [pieces, all, SplitP.bytes, word]
theorem words_long (s : ByteArray) (hl : 4096 < s.size) : words s = ([], 6) := by unfold words; rw [if_pos hl]
theorem esc_length (l : List UInt8) : (esc l).length ≤ 3 * l.length + 1 := by
  unfold esc
  split
  · simp
  · have := escs_length l; omega
/-- the letters of texts, and one for each -/
def bulk (ls : List (List UInt8)) : Nat := (ls.map fun l => l.length + 1).sum
theorem jn_length : ∀ (ls : List (List UInt8)), (jn ls).length ≤ 3 * bulk ls := by
  intro ls
  match ls with
  | [] => simp [jn]
  | [x] => have := esc_length x; simp [jn, bulk]; omega
  | x :: y :: r =>
    have ih := jn_length (y :: r)
    have := esc_length x
    simp [jn, bulk] at ih ⊢
    omega
theorem bulk_take (ls : List (List UInt8)) (k : Nat) : bulk (ls.take k) ≤ bulk ls := by
  have h : ls = ls.take k ++ ls.drop k := (List.take_append_drop k ls).symm
  conv => rhs; rw [h]
  unfold bulk
  rw [List.map_append, List.sum_append]
  omega
theorem bulk_mem (ls : List (List UInt8)) : ∀ x ∈ ls, x.length + 1 ≤ bulk ls := by
  induction ls with
  | nil => intro x h; simp at h
  | cons y r ih =>
    intro x h
    unfold bulk at ih ⊢
    rw [List.map_cons, List.sum_cons]
    rcases List.mem_cons.1 h with rfl | h
    · omega
    · have := ih x h; omega
end Go.Proofs.YtgkdnnklcbacmaaDoor.BackP
