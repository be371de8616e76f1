/-
  shell.Escape gives the word of a text.
-/
import Derived.Test.YtgkdnnklcbacmaaDoorProg
import Derived.Test.YtgkdnnklcbacmaaDoorLib
import Derived.Test.YtgkdnnklcbacmaaDoorEscP
import Derived.Test.YtgkdnnklcbacmaaDoorHex
import Derived.Test.YtgkdnnklcbacmaaDoorBld
import Derived.WalkKit
import Derived.WalkLawsBesides
import Derived.WalkSpells
import Derived.Lib.Hide
import Derived.KernelRfl
set_option linter.unusedVariables false
namespace Go.Proofs.YtgkdnnklcbacmaaDoor.Esc
open Go.RowKit HexP EscP

theorem cat37 (l : List UInt8) : (({ data := #[37] } : ByteArray) ++ ({ data := l.toArray } : ByteArray)) = ⟨(37 :: l).toArray⟩ := Lb.str_eq (by simp)

theorem size37 (c : UInt8) : ({ data := (37 :: two c).toArray } : ByteArray).size = 3 := rfl

set_option maxHeartbeats 1000000 in
theorem escape (s : ByteArray) (w : World) (hs : s.size ≤ 1073741824) :
    Calls Tryd.prog 5 #[.string s] w fun e w' => e = .returned (.string ⟨(esc s.data.toList).toArray⟩) ∧ Below w.heap.size w w' := by
  by_cases hn : s.data.toList = []
  · have hnm : s.toList = [] := by rw [Lib.toList_data]; exact hn
    have he : esc s.data.toList = [37] := by simp [esc, hn]
    have He := Lib.hid he
    clear he hn
    go_enter Tryd.func5, Tryd.ntmps5
    go_wp2
    go_ret
    exact ⟨by rw [He.out]; rfl, Below.refl _ _⟩
  · have hnm : ¬ s.toList = [] := by rw [Lib.toList_data]; exact hn
    have hnb : s.toList.isEmpty = false := by simp [hnm]
    have he : esc s.data.toList = escs s.data.toList := by simp [esc, hn]
    have He := Lib.hid he
    clear he hn hnm
    go_enter Tryd.func5, Tryd.ntmps5
    go_wp2
    go_loopw [4, 5, 10] (fun _ _ i wr => ∃ k : Nat, k ≤ s.size ∧ i = .int .i64 k ∧ Lib.IsBuilder 35 5 w.heap.size w.heap.size (Lib.byteCells (escs (s.data.toList.take k))) wr ∧ Below w.heap.size w wr) (fun _ _ i _ => s.size - (intOf i).toNat)
    case atStart => exact ⟨0, Nat.zero_le _, rfl, Lib.fresh_isBuilder _ _ _, (Below.refl _ _).alloc (Nat.le_refl _) _⟩
    case round =>
      obtain ⟨k, hk, rfl, hB, hb⟩ := hrel
      by_cases hlt : k < s.size
      · have e0 : (0 : Int) ≤ (k : Int) := Int.natCast_nonneg _
        have e1 : (k : Int) < (s.size : Int) := by omega
        have hsz := hb.size
        have hl : (escs (s.data.toList.take k)).length ≤ 3 * k := Nat.le_trans (escs_length _) (by simp; omega)
        have hc := Hex.byte_lt s[k]
        by_cases hp : plainB s[k] = true
        · have hpp := (plainB_iff _).1 hp
          have t1 : decide ((s[k].toNat : Int) < 33) = false := by simp; omega
          have t2 : decide (126 < (s[k].toNat : Int)) = false := by simp; omega
          have t3 : ((s[k].toNat : Int) == 37) = false := by simp; omega
          clear hpp hc
          go_wp2_with fail
          refine (Bld.writeByte _ _ _ _ _ hB (by rw [Lib.byteCells_length]; omega) (by omega)).mono ?_
          rintro e w1 ⟨rfl, hB1, hb1⟩
          have hB2 : Lib.IsBuilder 35 5 w.heap.size w.heap.size (Lib.byteCells (escs (s.data.toList.take (k + 1)))) w1 := by
            rw [Lb.take_snoc s k hlt, escs_snoc, escB_yes hp, Lib.byteCells_append]
            exact .inr hB1
          go_wp2
          go_roundw
          case rel => exact ⟨k + 1, by omega, by go_num, hB2, hb.trans hb1⟩
          case measure => simp [intOf]; omega
        · have hp' : plainB s[k] = false := by simpa using hp
          have hpp : ¬ (33 ≤ s[k].toNat ∧ s[k].toNat ≤ 126 ∧ s[k].toNat ≠ 37) := fun h => hp ((plainB_iff _).2 h)
          clear hp
          have ext : (s.extract k (k + 1)).data.toList = [s[k]] := by
            rw [Lib.extract_data]
            have : (s.data.toList.drop k).take (k + 1 - k) = [s[k]] := by
              rw [Nat.add_sub_cancel_left, List.drop_eq_getElem_cons (by simpa using hlt)]
              rfl
            exact this
          have exs : (s.extract k (k + 1)).size = 1 := by rw [Lib.size_eq, ext]; rfl
          have hx := Lib.hid ext
          have hxs : (s.extract k (k + 1)).size ≤ 1073741824 := by omega
          clear ext exs
          have cases3 : (s[k].toNat < 33) ∨ (33 ≤ s[k].toNat ∧ 126 < s[k].toNat) ∨ (33 ≤ s[k].toNat ∧ s[k].toNat ≤ 126 ∧ s[k].toNat = 37) := by omega
          clear hpp hc
          have h2 : (hexL (s.extract k (k + 1)).data.toList) = two s[k] := by rw [hx.out]; simp [hexL]
          have H2 := Lib.hid h2
          clear h2
          have hfin : ∀ w1 w2, Below w.heap.size wr w1 → Lib.BuilderAt 35 5 w.heap.size w.heap.size (.pointer (some ⟨w.heap.size, 0, none⟩)) (Lib.byteCells (escs (s.data.toList.take k)) ++ Lib.strCells ⟨(37 :: two s[k]).toArray⟩) w2 → Below w.heap.size w1 w2 →
              Lib.IsBuilder 35 5 w.heap.size w.heap.size (Lib.byteCells (escs (s.data.toList.take (k + 1)))) w2 ∧ Below w.heap.size w w2 := by
            intro w1 w2 h1 h2 h3
            refine ⟨?_, (hb.trans h1).trans h3⟩
            rw [Lb.take_snoc s k hlt, escs_snoc, escB_no hp', Lib.byteCells_append]
            exact .inr h2
          have Hfin := Lib.hid hfin
          clear hfin
          have t : (decide ((s[k].toNat : Int) < 33) = true ∨ (decide ((s[k].toNat : Int) < 33) = false ∧ decide (126 < (s[k].toNat : Int)) = true) ∨ (decide ((s[k].toNat : Int) < 33) = false ∧ decide (126 < (s[k].toNat : Int)) = false ∧ ((s[k].toNat : Int) == 37) = true)) := by
            rcases cases3 with c | ⟨c1, c2⟩ | ⟨c1, c2, c3⟩
            · exact .inl (by simp; omega)
            · exact .inr (.inl ⟨by simp; omega, by simp; omega⟩)
            · exact .inr (.inr ⟨by simp; omega, by simp; omega, by simp; omega⟩)
          clear cases3
          rcases t with t1 | ⟨t1, t2⟩ | ⟨t1, t2, t3⟩
          all_goals
            go_wp2_with fail
            refine (Hex.hex _ _ hxs).mono ?_
            rintro e w1 ⟨rfl, hh1⟩
            rw [H2.out]
            have hBx := Lb.builder_below hB hh1
            have hsx := hh1.size
            go_wp2_with fail
            rw [cat37]
            refine (Bld.writeString _ _ _ _ _ hBx (by rw [Lib.byteCells_length, size37]; omega) (by omega)).mono ?_
            rintro e w2 ⟨rfl, hB1, hb1⟩
            obtain ⟨hB2, hb2⟩ := Hfin.out w1 w2 (hh1.mono (by omega)) hB1 hb1
            go_wp2
            go_roundw
            case rel => exact ⟨k + 1, by omega, by go_num, hB2, hb2⟩
            case measure => simp [intOf]; omega
      · obtain rfl : k = s.size := by omega
        have hfull : s.data.toList.take s.size = s.data.toList := List.take_of_length_le (by simp)
        rw [hfull] at hB
        clear hfull
        go_wp2_with fail
        refine (Bld.string_any _ _ _ _ hB hb.size).mono ?_
        rintro e w1 ⟨rfl, hb1⟩
        go_wp2
        go_ret
        exact ⟨by rw [He.out]; rfl, hb.trans hb1⟩
end Go.Proofs.YtgkdnnklcbacmaaDoor.Esc
