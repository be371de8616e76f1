/-
  The document's Escape gives the word of a text; its Plain the text that a word stands for.
-/
import Derived.Test.YtgkdnnklcbacmaaDoorProg
import Derived.Test.YtgkdnnklcbacmaaDoorLib
import Derived.Test.YtgkdnnklcbacmaaDoorPlainP
import Derived.Test.YtgkdnnklcbacmaaDoorRefHex
import Derived.WalkKit
import Derived.WalkLawsBesides
import Derived.WalkSpells
import Derived.Deep.RegionHeld3
import Derived.Deep.AppendLies
import Derived.Maps.AppendAt
import Derived.Laws.BitsLemmas
import Derived.Lib.Hide
import Derived.KernelRfl
set_option linter.unusedVariables false
namespace Go.Proofs.YtgkdnnklcbacmaaDoor.RefEsc
open Go.RowKit HexP UnhP EscP PlainP

theorem two_str (c : UInt8) : ({ data := (two c).toArray } : ByteArray) = { data := #[dig (c.toNat / 16), dig (c.toNat % 16)] } := rfl

set_option maxHeartbeats 2000000 in
theorem escape (s : ByteArray) (w : World) (hs : s.size ≤ 1073741824) :
    Calls Tryd.prog 8 #[.string s] w fun e w' => e = .returned (.string ⟨(esc s.data.toList).toArray⟩) ∧ Below w.heap.size w w' := by
  obtain ⟨i0, hi, hz0, hz1, hz2⟩ := info_parts RefHex.infoByte
  by_cases hn : s.size = 0
  · have hn0 : s.data.toList = [] := List.eq_nil_of_length_eq_zero (by rw [← Lib.size_eq]; exact hn)
    have he : esc s.data.toList = [37] := by simp [esc, hn0]
    have He := Lib.hid he
    have t : ((s.size : Int) == 0) = true := by rw [beq_iff_eq]; omega
    clear he hn hn0
    go_enter Tryd.func8, Tryd.ntmps8
    go_wp2
    go_ret
    exact ⟨by rw [He.out]; rfl, Below.refl _ _⟩
  · have hn0 : s.data.toList ≠ [] := fun h => hn (by rw [Lib.size_eq, h]; rfl)
    have he : esc s.data.toList = escs s.data.toList := by simp [esc, hn0]
    have He := Lib.hid he
    have t : ((s.size : Int) == 0) = false := by rw [beq_eq_false_iff_ne]; omega
    clear he hn hn0
    go_enter Tryd.func8, Tryd.ntmps8
    go_wp2
    go_loopw [3, 4, 5] (fun v i _ wr => ∃ k : Nat, k ≤ s.size ∧ i = .int .i64 k ∧ wr.ownsRow w.heap.size 5 1 v (escs (s.data.toList.take k)).length (Lib.byteCells (escs (s.data.toList.take k))) ∧ Below w.heap.size w wr) (fun _ i _ _ => s.size - (intOf i).toNat)
    case atStart => exact ⟨0, Nat.zero_le _, rfl, World.ownsRow_nil _ _ _ _, Below.refl _ _⟩
    case round =>
      obtain ⟨k, hk, rfl, hrow, hb⟩ := hrel
      by_cases hlt : k < s.size
      · have e0 : (0 : Int) ≤ (k : Int) := Int.natCast_nonneg _
        have e1 : (k : Int) < (s.size : Int) := by omega
        have hsz := hb.size
        have hl : (escs (s.data.toList.take k)).length ≤ 3 * k := Nat.le_trans (escs_length _) (by simp; omega)
        by_cases hp : plainB s[k] = true
        · have hpp := (plainB_iff _).1 hp
          have t1 : decide (32 < (s[k].toNat : Int)) = true := by simp; omega
          have t2 : decide ((s[k].toNat : Int) < 127) = true := by simp; omega
          have t3 : ((s[k].toNat : Int) != 37) = true := by rw [bne_iff_ne]; omega
          have hsn : escs (s.data.toList.take (k + 1)) = escs (s.data.toList.take k) ++ [s[k]] := by
            rw [Lb.take_snoc s k hlt, escs_snoc, escB_yes hp]
          have Hsn := Lib.hid hsn
          clear hpp hsn hp
          go_wp2_with (at_builtin; refine wpList_append_own _ rfl _ _ 33 rfl w.heap.size 5 i0 (.int .u8 0) 1 1 Tryd.underlying33 hi hz0 hz1 hz2 rfl (by decide) _ _ _ rfl (hrow.alloc _) ⟨wr.heap.size, 0, none⟩ 1 1 [.int .u8 (s[k].toNat : Int)] rfl rfl (cell_one_new _ _ _) (by simp [Value.oneCell']) (by unfold maxLen; omega) (by omega) (by simp; omega) ?_; intro v' w1 hown' hgrow' _)
          go_roundw
          case rel =>
            refine ⟨k + 1, by omega, by go_num, ?_, (hb.alloc (by omega) _).grown hgrow' (by simp; omega) (fun j hj => (hrow.lt j hj).1)⟩
            rw [Hsn.out, Lib.byteCells_append, List.length_append]
            exact hown'
          case measure => simp [intOf]; omega
        · have hp' : plainB s[k] = false := by simpa using hp
          have hpp : ¬ (33 ≤ s[k].toNat ∧ s[k].toNat ≤ 126 ∧ s[k].toNat ≠ 37) := fun h => hp ((plainB_iff _).2 h)
          have hsn : escs (s.data.toList.take (k + 1)) = escs (s.data.toList.take k) ++ (37 :: two s[k]) := by
            rw [Lb.take_snoc s k hlt, escs_snoc, escB_no hp']
          have Hsn := Lib.hid hsn
          have ext : (s.extract k (k + 1)).data.toList = [s[k]] := by
            rw [Lib.extract_data, Nat.add_sub_cancel_left, List.drop_eq_getElem_cons (by simpa using hlt)]
            rfl
          have hxs : (s.extract k (k + 1)).size ≤ 1073741824 := by rw [Lib.size_eq, ext]; simp
          have h2 : (hexL (s.extract k (k + 1)).data.toList) = two s[k] := by rw [ext]; simp [hexL]
          have H2 := Lib.hid h2
          have tt : (decide (32 < (s[k].toNat : Int)) = false ∨ (decide (32 < (s[k].toNat : Int)) = true ∧ decide ((s[k].toNat : Int) < 127) = false) ∨ (decide (32 < (s[k].toNat : Int)) = true ∧ decide ((s[k].toNat : Int) < 127) = true ∧ ((s[k].toNat : Int) != 37) = false)) := by
            by_cases c1 : 32 < s[k].toNat
            · by_cases c2 : s[k].toNat < 127
              · exact .inr (.inr ⟨by simp; omega, by simp; omega, by rw [bne_eq_false_iff_eq]; omega⟩)
              · exact .inr (.inl ⟨by simp; omega, by simp; omega⟩)
            · exact .inl (by simp; omega)
          clear hpp hp hp' hsn h2 ext
          rcases tt with t1 | ⟨t1, t2⟩ | ⟨t1, t2, t3⟩
          all_goals
            go_wp2_with fail
            refine (RefHex.hex _ _ hxs).mono ?_
            rintro e w1 ⟨rfl, hh1⟩
            rw [H2.out, two_str]
            have row1 := Lb.row_below hrow hh1
            have hsx := hh1.size
            have hb1 := hb.trans (hh1.mono hsz)
            have x0 : ({ data := #[dig (s[k].toNat / 16), dig (s[k].toNat % 16)] } : ByteArray).size = 2 := rfl
            go_wp2_with fail
            go_region_held3 (fun _ => True) (first | trivial | go_keep) ((refine step_append_lies _ (by rfl) _ _ _ (by rfl) w.heap.size 5 i0 _ 1 1 Tryd.underlying33 hi hz0 hz1 hz2 rfl (by omega) _ _ _ (by rfl) ((row1.alloc _).drew) ⟨w1.heap.size, 0, none⟩ 3 3 [.int .u8 37, .int .u8 ((dig (s[k].toNat / 16)).toNat : Int), .int .u8 ((dig (s[k].toNat % 16)).toNat : Int)] (by rfl) (by rfl) (World.news_of_block (cs := #[.int .u8 37, .int .u8 ((dig (s[k].toNat / 16)).toNat : Int), .int .u8 ((dig (s[k].toNat % 16)).toNat : Int)]) (t := 5) (fr := (0, 0)) (heap_alloc_new w1 _)) (by simp [Value.oneCell']) (by omega) (by unfold maxLen; omega) (by omega) (by simp; omega) (w1.heap.size + 1) (by simp) ?_; intro gg cap w2 hown1 hgrow hat hgl))
            go_wp2
          all_goals
            go_roundw
            case rel =>
              refine ⟨k + 1, by omega, by go_num, ?_, ((hb1.alloc (by omega) _).drew).grown hgrow (by simp; omega) (fun j hj => (row1.lt j hj).1)⟩
              rw [Hsn.out, Lib.byteCells_append, List.length_append]
              exact hown1
            case measure => simp [intOf]; omega
      · obtain rfl : k = s.size := by omega
        have hfull : s.data.toList.take s.size = s.data.toList := List.take_of_length_le (by simp)
        rw [hfull] at hrow
        have hcv := Lb.conv_own (P := Tryd.prog) Tryd.underlying33 Tryd.underlying5 Tryd.underlying9 rfl hrow
        clear hfull
        go_wp2
        go_ret
        exact ⟨by rw [He.out]; rfl, hb⟩
end Go.Proofs.YtgkdnnklcbacmaaDoor.RefEsc
