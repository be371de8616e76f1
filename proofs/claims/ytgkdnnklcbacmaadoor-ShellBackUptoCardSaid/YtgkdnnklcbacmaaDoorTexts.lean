/-
  The document's Texts tells whether two lists hold the same texts.
-/
import Derived.Test.YtgkdnnklcbacmaaDoorProg
import Derived.Test.YtgkdnnklcbacmaaDoorLib
import Derived.WalkKit
import Derived.WalkLawsBesides
import Derived.WalkSpells
import Derived.Deep.QuietTactic
import Derived.BigQuiet
import Derived.Lib.Hide
import Derived.KernelRfl
set_option linter.unusedVariables false
namespace Go.Proofs.YtgkdnnklcbacmaaDoor.Texts
open Go.RowKit

/-- A list of texts in memory. -/
def Reads (w : World) (v : Value) (l : List ByteArray) : Prop :=
  (∃ ao cap, l = [] ∧ v = .slice ao 0 cap) ∨ ∃ b off cap, v = .slice (some ⟨b, off, none⟩) l.length cap ∧ l.length ≤ 9223372036854775807 ∧ ∀ j (h : j < l.length), w.cell? ⟨b, off + j, none⟩ = some (.string l[j])

theorem Reads.sm {w w' : World} {v : Value} {l : List ByteArray} (h : Reads w v l) (hs : Lb.Sm w w') : Reads w' v l := by
  rcases h with h | ⟨b, off, cap, hv, hl, hc⟩
  · exact .inl h
  · exact .inr ⟨b, off, cap, hv, hl, fun j hj => by rw [hs.cell]; exact hc j hj⟩

theorem Reads.below {w w' : World} {v : Value} {l : List ByteArray} (h : Reads w v l) (hb : Below w.heap.size w w') : Reads w' v l := by
  rcases h with h | ⟨b, off, cap, hv, hl, hc⟩
  · exact .inl h
  · exact .inr ⟨b, off, cap, hv, hl, fun j hj => by rw [hb.cell (p := ⟨b, off + j, none⟩) (World.block_lt_of_cell? w _ (hc j hj))]; exact hc j hj⟩

theorem Reads.of_own {w : World} {B : Nat} {e : TypeId} {v : Value} {l : List ByteArray} (h : w.ownsRow B e 1 v l.length (l.map .string)) : Reads w v l := by
  rcases h.2 with ⟨hv, h0⟩ | ⟨g, cap, cur, hv, hb, hg, hn, hc, hsz, htk⟩
  · exact .inl ⟨none, 0, List.eq_nil_of_length_eq_zero h0, hv⟩
  · refine .inr ⟨g, 0, cap, hv, by unfold maxLen at hc; omega, fun j hj => ?_⟩
    have h1 := World.ownsRow.cells h (g := g) (by rw [hv]; rfl) j (.string l[j]) (by rw [List.getElem?_map, List.getElem?_eq_getElem hj]; rfl)
    have h2 : (⟨g, 0, none⟩ : Addr).add j = ⟨g, 0 + j, none⟩ := by unfold Addr.add; split <;> simp_all
    rw [h2] at h1
    exact h1

theorem Reads.shape {w : World} {v : Value} {l : List ByteArray} (h : Reads w v l) : ∃ ao cap, v = .slice ao l.length cap := by
  rcases h with ⟨ao, cap, rfl, rfl⟩ | ⟨b, off, cap, hv, _⟩
  · exact ⟨_, _, rfl⟩
  · exact ⟨_, _, hv⟩

theorem Reads.le {w : World} {v : Value} {l : List ByteArray} (h : Reads w v l) : l.length ≤ 9223372036854775807 := by
  rcases h with ⟨ao, cap, rfl, rfl⟩ | ⟨b, off, cap, hv, hl, _⟩
  · simp
  · exact hl

theorem ret_bool {a b : Bool} (h : a = b) : Ending.returned (.bool a) = .returned (.bool b) := by rw [h]

def Quiet (w : World) (x : Value) (w' : World) (e : Ending) : Prop := e = .returned x ∧ Lb.Sm w w'

set_option maxHeartbeats 1000000 in
theorem texts (w : World) (v1 v2 : Value) (l1 l2 : List ByteArray) (h1 : Reads w v1 l1) (h2 : Reads w v2 l2) :
    Calls Tryd.prog 9 #[v1, v2] w fun e w' => e = .returned (.bool (decide (l1 = l2))) ∧ Lb.Sm w w' := by
  by_cases hlen : l1.length = l2.length
  · rcases h1 with ⟨ao, cap, rfl, rfl⟩ | ⟨b, off, cap, rfl, hm, hc⟩
    · obtain rfl : l2 = [] := List.eq_nil_of_length_eq_zero (by simpa using hlen.symm)
      obtain ⟨ao2, cap2, rfl⟩ := h2.shape
      clear h2 hlen
      simp only [List.length_nil]
      go_enter Tryd.func9, Tryd.ntmps9
      go_wp2
      go_loopw [5] (fun i wr => i = .int .i64 0 ∧ Hid (w = wr)) (fun _ _ => 0)
      case atStart => exact ⟨rfl, Lib.hid rfl⟩
      case round =>
        obtain ⟨rfl, hw⟩ := hrel
        obtain rfl := hw.out
        go_wp2
        go_ret
        exact ⟨rfl, Lb.Sm.refl _⟩
    rcases h2 with ⟨ao, cap2, rfl, rfl⟩ | ⟨b2, off2, cap2, rfl, hm2, hc2⟩
    · obtain rfl : l1 = [] := List.eq_nil_of_length_eq_zero (by simpa using hlen)
      clear hc hlen hm
      simp only [List.length_nil]
      go_enter Tryd.func9, Tryd.ntmps9
      go_wp2
      go_loopw [5] (fun i wr => i = .int .i64 0 ∧ Hid (w = wr)) (fun _ _ => 0)
      case atStart => exact ⟨rfl, Lib.hid rfl⟩
      case round =>
        obtain ⟨rfl, hw⟩ := hrel
        obtain rfl := hw.out
        go_wp2
        go_ret
        exact ⟨rfl, Lb.Sm.refl _⟩
    obtain ⟨n, hn⟩ : ∃ n, l1.length = n := ⟨_, rfl⟩
    have hn2 : l2.length = n := by omega
    rw [hn, hn2]
    have Hn := Lib.hid hn
    have Hn2 := Lib.hid hn2
    have Hc := Lib.hid hc
    have Hc2 := Lib.hid hc2
    rw [hn] at hm
    clear hlen hn hn2 hc hc2 hm2
    go_enter Tryd.func9, Tryd.ntmps9
    go_wp2
    go_loopw [5] (fun i wr => ∃ k : Nat, k ≤ n ∧ i = .int .i64 k ∧ Hid (l1.take k = l2.take k) ∧ Lb.Sm w wr) (fun i _ => n - (intOf i).toNat)
    case atStart => exact ⟨0, by omega, rfl, Lib.hid rfl, Lb.Sm.refl _⟩
    case round =>
      obtain ⟨k, hk, rfl, htk, hsm⟩ := hrel
      by_cases hlt : k < n
      · have e0 : (0 : Int) ≤ (k : Int) := Int.natCast_nonneg _
        have e1 : (k : Int) < (n : Int) := by omega
        have k1 : k < l1.length := by rw [Hn.out]; exact hlt
        have k2 : k < l2.length := by rw [Hn2.out]; exact hlt
        have g1 : wr.cell? ⟨b, off + k, none⟩ = some (.string l1[k]) := by rw [hsm.cell]; exact Hc.out k k1
        have g2 : wr.cell? ⟨b2, off2 + k, none⟩ = some (.string l2[k]) := by rw [hsm.cell]; exact Hc2.out k k2
        by_cases he : l1[k] = l2[k]
        · have tt : (l1[k].toList == l2[k].toList) = true := by rw [he]; simp
          have hnew : l1.take (k + 1) = l2.take (k + 1) := by
            rw [List.take_succ_eq_append_getElem k1, List.take_succ_eq_append_getElem k2, htk.out, he]
          have Hnew := Lib.hid hnew
          clear he hnew
          go_wp2
          go_quiet (fail)
          go_wp2
          go_roundw
          case rel => exact ⟨k + 1, by omega, by go_num, Hnew, hsm.trans (Lb.Sm.drewN _ _)⟩
          case measure => simp [intOf]; omega
        · have tt : (l1[k].toList == l2[k].toList) = false := by
            rw [Lib.toList_data, Lib.toList_data]
            simpa using fun e => he (Lb.str_eq e)
          have hne : decide (l1 = l2) = false := by
            rw [decide_eq_false_iff_not]
            rintro rfl
            exact he rfl
          have Hne := Lib.hid hne
          clear he hne
          go_wp2
          go_quiet (fail)
          go_wp2
          go_ret
          exact ⟨by rw [Hne.out]; rfl, hsm.trans (Lb.Sm.drewN _ _)⟩
      · obtain rfl : k = n := by omega
        have hall : decide (l1 = l2) = true := by
          rw [decide_eq_true_iff]
          have h1 : l1.take k = l1 := List.take_of_length_le (by rw [Hn.out]; exact Nat.le_refl _)
          have h2 : l2.take k = l2 := List.take_of_length_le (by rw [Hn2.out]; exact Nat.le_refl _)
          rw [← h1, ← h2]
          exact htk.out
        have Hall := Lib.hid hall
        clear hall
        go_wp2
        go_ret
        exact ⟨by rw [Hall.out]; rfl, hsm⟩
  · have hne : decide (l1 = l2) = false := by
      rw [decide_eq_false_iff_not]
      rintro rfl
      exact hlen rfl
    have Hne := Lib.hid hne
    have m1 := h1.le
    have m2 := h2.le
    obtain ⟨ao1, c1, rfl⟩ := h1.shape
    obtain ⟨ao2, c2, rfl⟩ := h2.shape
    have tt : ((l1.length : Int) != (l2.length : Int)) = true := by rw [bne_iff_ne]; omega
    clear h1 h2 hne hlen
    go_enter Tryd.func9, Tryd.ntmps9
    go_wp2
    go_ret
    exact ⟨by rw [Hne.out]; rfl, Lb.Sm.refl _⟩
end Go.Proofs.YtgkdnnklcbacmaaDoor.Texts
