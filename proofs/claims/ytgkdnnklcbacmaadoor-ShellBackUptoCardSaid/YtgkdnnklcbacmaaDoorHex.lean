/-
  radix.Hex gives two digits for each byte.
-/
import Derived.Test.YtgkdnnklcbacmaaDoorProg
import Derived.Test.YtgkdnnklcbacmaaDoorLib
import Derived.Test.YtgkdnnklcbacmaaDoorHexP
import Derived.WalkKit
import Derived.Laws.BitsLemmas
import Derived.Deep.RegionHeld3
import Derived.Deep.AppendLies
import Derived.Lib.Hide
import Derived.KernelRfl
set_option linter.unusedVariables false
namespace Go.Proofs.YtgkdnnklcbacmaaDoor.Hex
open Go.RowKit HexP

theorem infoByte : (Tryd.prog.info? 5).map (fun i => (i.zero, i.size, i.bytes)) = some (some (.int .u8 0), 1, 1) := by kernel_rfl

theorem idx_digits (v : Nat) (x : Int) (hx : x = v) (h : v < 16) (w : World) :
    (Instr.index 9 (.string { data := #[48, 49, 50, 51, 52, 53, 54, 55, 56, 57, 97, 98, 99, 100, 101, 102] }) (.int .u8 x)).run Tryd.prog w = .ok (.int .u8 ((dig v).toNat : Int)) w := by
  subst hx
  have h16 : (v : Int) < 16 := by omega
  have h0 : (0 : Int) ≤ v := by omega
  have hd := digits_get v h
  go_simp
  have hl : v < digits.length := by simpa [digits] using h
  rw [List.getElem?_eq_getElem hl] at hd
  rw [← Option.some.inj hd]
  rfl

theorem and15 (x : Nat) (h : x < 256) : bits BinOp.and IntKind.u8 (x : Int) 15 = ((x % 16 : Nat) : Int) := by
  have : ∀ x : Fin 256, bits BinOp.and IntKind.u8 ((x.val : Nat) : Int) 15 = ((x.val % 16 : Nat) : Int) := by decide +kernel
  exact this ⟨x, h⟩

theorem byte_lt (c : UInt8) : c.toNat < 256 := c.toNat_lt

set_option maxHeartbeats 1000000 in
theorem hex (s : ByteArray) (w : World) (hs : s.size ≤ 1073741824) :
    Calls Tryd.prog 11 #[.string s] w fun e w' => e = .returned (.string ⟨(hexL s.data.toList).toArray⟩) ∧ Below w.heap.size w w' := by
  obtain ⟨i0, hi, hz0, hz1, hz2⟩ := info_parts infoByte
  go_enter Tryd.func11, Tryd.ntmps11
  go_wp2_with (at_make; refine wpList_make_own _ rfl _ _ 33 rfl w.heap.size 5 i0 (.int .u8 0) 1 Tryd.underlying33 hi hz0 hz1 .i64 .i64 _ (2 * s.size) rfl rfl ?c1 ?c2 ?c3 ?c4 ?_)
  case c1 => omega
  case c2 => rw [hz2]; omega
  case c3 => unfold maxLen; omega
  case c4 => exact Nat.le_refl _
  intro w1 hown hgrow
  go_wp2
  go_loopw [3, 4, 11] (fun v _ i wr => ∃ k : Nat, k ≤ s.size ∧ i = .int .i64 k ∧ wr.ownsRow w.heap.size 5 1 v (2 * k) (Lib.byteCells (hexL (s.data.toList.take k))) ∧ Below w.heap.size w wr) (fun _ _ i _ => s.size - (intOf i).toNat)
  case atStart => exact ⟨0, Nat.zero_le _, rfl, hown, (Below.refl _ _).grown hgrow (Nat.le_refl _) (by simp)⟩
  case round =>
    obtain ⟨k, hk, rfl, hrow, hb⟩ := hrel
    by_cases hlt : k < s.size
    · have e0 : (0 : Int) ≤ (k : Int) := Int.natCast_nonneg _
      have e1 : (k : Int) < (s.size : Int) := by omega
      have hc := byte_lt s[k]
      have x1 := idx_digits (s[k].toNat / 16) ((s[k].toNat : Int) / 16) (by omega) (by omega)
      have x2 := idx_digits (s[k].toNat % 16) (bits BinOp.and IntKind.u8 (s[k].toNat : Int) 15) (and15 _ hc) (by omega)
      clear hc
      have hsz := hb.size
      go_wp2
      go_region_held3 (fun _ => True) (first | trivial | go_keep) ((refine step_append_lies _ (by rfl) _ _ _ (by rfl) w.heap.size 5 i0 _ 1 1 Tryd.underlying33 hi hz0 hz1 hz2 rfl (by omega) _ (2 * k) _ (by rfl) ((hrow.alloc _).drew) ⟨wr.heap.size, 0, none⟩ 2 2 [.int .u8 ((dig (s[k].toNat / 16)).toNat : Int), .int .u8 ((dig (s[k].toNat % 16)).toNat : Int)] (by rfl) (by rfl) (World.news_of_block (cs := #[.int .u8 ((dig (s[k].toNat / 16)).toNat : Int), .int .u8 ((dig (s[k].toNat % 16)).toNat : Int)]) (t := 5) (fr := (0, 0)) (heap_alloc_new wr _)) (by simp [Value.oneCell']) (by omega) (by unfold maxLen; omega) (by omega) (by simp; omega) (wr.heap.size + 1) (by simp) ?_; intro gg cap w1 hown1 hgrow hat hgl))
      go_wp2
      all_goals
        go_roundw
        case rel =>
          refine ⟨k + 1, by omega, by go_num, ?_, ?_⟩
          · rw [Lb.take_snoc s k hlt, hexL_snoc, Lib.byteCells_append]
            exact hown1
          · exact ((hb.alloc (by omega) _).drew).grown hgrow (by simp; omega) (fun j hj => (hrow.lt j hj).1)
        case measure => simp [intOf]; omega
    · obtain rfl : k = s.size := by omega
      have hfull : s.data.toList.take s.size = s.data.toList := List.take_of_length_le (by simp)
      have hcv := Lb.conv_own (P := Tryd.prog) Tryd.underlying33 Tryd.underlying5 Tryd.underlying9 (by rw [hexL_length]; simp) hrow
      have hf := Lib.hid hfull
      clear hfull
      go_wp2
      go_ret
      exact ⟨by rw [hf.out]; rfl, hb⟩
end Go.Proofs.YtgkdnnklcbacmaaDoor.Hex
