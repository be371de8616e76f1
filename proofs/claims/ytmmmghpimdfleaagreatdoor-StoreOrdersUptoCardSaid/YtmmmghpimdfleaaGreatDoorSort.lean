/-
  slices.Sort at []string by what the row owns; sorted lists of texts.
-/
import Derived.Test.YtmmmghpimdfleaaGreatDoorSrt
import Derived.Test.YtmmmghpimdfleaaGreatDoorGrpA
import Derived.Sort.OwnSorted
set_option linter.unusedVariables false
set_option linter.unusedSimpArgs false
namespace Go.Proofs.YtmmmghpimdfleaaGreatDoor.Srt
open Go.RowKit Mem
open Go.Proofs.YtmmmghpimdfleaaGreatDoor.Own
open Go.Sort (Holds)

def toL (s : ByteArray) : List UInt8 := s.data.toList
def ofL (l : List UInt8) : ByteArray := ⟨l.toArray⟩
theorem ofL_toL (s : ByteArray) : ofL (toL s) = s := by unfold ofL toL; rfl
theorem toL_ofL (l : List UInt8) : toL (ofL l) = l := rfl
def sortB (l : List ByteArray) : List ByteArray := ((l.map toL).mergeSort fun x y => decide (x ≤ y)).map ofL
theorem sortB_length (l : List ByteArray) : (sortB l).length = l.length := by
  unfold sortB; rw [List.length_map, List.length_mergeSort, List.length_map]
theorem sortB_perm (l : List ByteArray) : (sortB l).Perm l := by
  unfold sortB
  have h1 := (List.mergeSort_perm (l.map toL) (fun x y => decide (x ≤ y))).map ofL
  rw [List.map_map] at h1
  have e : (ofL ∘ toL) = id := funext fun s => ofL_toL s
  rw [e, List.map_id] at h1
  exact h1
theorem mem_sortB {l : List ByteArray} {x : ByteArray} : x ∈ sortB l ↔ x ∈ l := (sortB_perm l).mem_iff
theorem lt_toL {a b : ByteArray} : Sp.lt a b = decide (toL a < toL b) := by
  unfold Sp.lt
  rw [Sp.less_eq, Lib.toList_data, Lib.toList_data]
  rfl
/-- rising, each once -/
def Ris (l : List ByteArray) : Prop := l.Pairwise fun a b => Sp.lt a b = true
theorem sortB_ris {l : List ByteArray} (hn : l.Nodup) : Ris (sortB l) := by
  have h1 : ((l.map toL).mergeSort fun x y => decide (x ≤ y)).Pairwise fun x y => decide (x ≤ y) = true :=
    List.pairwise_mergeSort (fun a b c h1 h2 => by
      have h1 := of_decide_eq_true h1
      have h2 := of_decide_eq_true h2
      exact decide_eq_true (List.le_trans h1 h2)) (fun a b => by
      rcases List.le_total a b with h | h
      · simp [h]
      · simp [h]) _
  have h2 : (sortB l).Nodup := (sortB_perm l).nodup_iff.2 hn
  unfold Ris
  have h3 : (sortB l).Pairwise fun a b => decide (toL a ≤ toL b) = true := by
    unfold sortB
    rw [List.pairwise_map]
    exact h1
  refine (h3.and h2).imp ?_
  intro a b ⟨h4, h5⟩
  rw [lt_toL, decide_eq_true_eq]
  have h6 := of_decide_eq_true h4
  rcases Decidable.em (toL a < toL b) with h | h
  · exact h
  · exact absurd (List.le_antisymm h6 (List.not_lt.1 h)) (fun e => h5 (by rw [← ofL_toL a, e, ofL_toL]))
theorem ris_ext : ∀ {a b : List ByteArray}, Ris a → Ris b → (∀ x, x ∈ a ↔ x ∈ b) → a = b := by
  intro a
  induction a with
  | nil =>
    intro b _ _ h
    cases b with
    | nil => rfl
    | cons y b => exact absurd ((h y).2 (by simp)) (by simp)
  | cons x a ih =>
    intro b ha hb h
    cases b with
    | nil => exact absurd ((h x).1 (by simp)) (by simp)
    | cons y b =>
      unfold Ris at ha hb
      rw [List.pairwise_cons] at ha hb
      have hxy : x = y := by
        rcases List.mem_cons.1 ((h x).1 (by simp)) with e | e
        · exact e
        · rcases List.mem_cons.1 ((h y).2 (by simp)) with e' | e'
          · exact e'.symm
          · have h1 := hb.1 x e
            have h2 := ha.1 y e'
            rw [Sp.lt_asymm h1] at h2
            cases h2
      subst hxy
      congr 1
      refine ih ha.2 hb.2 fun z => ?_
      constructor
      · intro hz
        rcases List.mem_cons.1 ((h z).1 (by simp [hz])) with e | e
        · subst e; have := ha.1 z hz; rw [Sp.lt_irrefl] at this; cases this
        · exact e
      · intro hz
        rcases List.mem_cons.1 ((h z).2 (by simp [hz])) with e | e
        · subst e; have := hb.1 z hz; rw [Sp.lt_irrefl] at this; cases this
        · exact e
theorem ris_nodup {l : List ByteArray} (h : Ris l) : l.Nodup := h.imp fun h e => by subst e; rw [Sp.lt_irrefl] at h; cases h

theorem enc_toL (l : List ByteArray) : l.map Value.string = (l.map toL).map encStr := by
  rw [List.map_map]
  refine List.map_congr_left fun s _ => ?_
  show Value.string s = .string ⟨(toL s).toArray⟩
  rfl
/-- What a sorting leaves. -/
def PostSort (w : World) (B : Nat) (v : Value) (l : List ByteArray) (e : Ending) (w' : World) : Prop :=
  e = .returned (.tuple #[]) ∧ w'.ownsRow B 9 1 v l.length ((sortB l).map .string) ∧ w.grownBy w' v.ownBlock
theorem sortC (B : Nat) (v : Value) (l : List ByteArray) (w : World) (hown : w.ownsRow B 9 1 v l.length (l.map .string)) (hn : l.length < 4611686018427387904) :
    Calls Tryz.prog 92 #[v] w (PostSort w B v l) := by
  rcases own_parts hown with ⟨rfl, h0, _⟩ | ⟨g, cap, cur, rfl, hB, hb, hnc, hm, hs, hcur⟩
  · refine (Tryz.slices_Sort_none none 0 w).mono ?_
    rintro e w' ⟨rfl, rfl⟩
    obtain rfl := List.eq_nil_of_length_eq_zero h0
    exact ⟨rfl, by rw [show sortB [] = [] from List.eq_nil_of_length_eq_zero (sortB_length [])]; exact World.ownsRow_nil _ _ _ _, ⟨rfl, rfl, rfl, Nat.le_refl _, fun _ _ _ => rfl⟩⟩
  · have hbk : w.heap[g]? = some (.cells cur 9 (0, 0)) := hb
    have ht : cur.toList.take (l.map toL).length = (l.map toL).map encStr := by
      rw [← enc_toL, List.length_map]
      apply List.ext_getElem?
      intro j
      by_cases hj : j < l.length
      · rw [List.getElem?_take, if_pos hj, Array.getElem?_toList, hcur j (by omega)]
      · rw [List.getElem?_eq_none (by simp; omega), List.getElem?_eq_none (by simp; omega)]
    have h1 := Tryz.slices_Sort_string g 0 cap (l.map toL) w (Go.holds_of_block hbk ht) hb.lt (by simpa using hn)
    rw [List.length_map] at h1
    refine h1.mono ?_
    rintro e w' ⟨rfl, n, os, rfl⟩
    refine ⟨rfl, ?_, Go.grownBy_sorted _⟩
    have := Go.ownsRow_sorted (n := n) (os := os) (ss := l.map toL) (ts := (l.map toL).mergeSort fun x y => decide (x ≤ y)) (by rw [List.length_mergeSort]) hB hbk (by simpa using hnc) hm hs
    rw [List.length_map] at this
    have e2 : (sortB l).map Value.string = ((l.map toL).mergeSort fun x y => decide (x ≤ y)).map encStr := by
      unfold sortB
      rw [List.map_map]
      exact List.map_congr_left fun s _ => rfl
    rw [e2]
    exact this
end Go.Proofs.YtmmmghpimdfleaaGreatDoor.Srt
