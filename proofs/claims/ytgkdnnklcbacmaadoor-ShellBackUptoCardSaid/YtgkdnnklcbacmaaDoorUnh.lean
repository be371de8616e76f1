/-
  radix.FromHex gives the bytes that pairs of digits stand for.
-/
import Derived.Test.YtgkdnnklcbacmaaDoorProg
import Derived.Test.YtgkdnnklcbacmaaDoorLib
import Derived.Test.YtgkdnnklcbacmaaDoorUnhP
import Derived.Test.YtgkdnnklcbacmaaDoorHex
import Derived.WalkKit
import Derived.WalkLawsBesides
import Derived.WalkSpells
import Derived.Lib.Hide
import Derived.KernelRfl
set_option linter.unusedVariables false
namespace Go.Proofs.YtgkdnnklcbacmaaDoor.Unh
open Go.RowKit HexP UnhP

theorem digits_arr : ({ data := #[48, 49, 50, 51, 52, 53, 54, 55, 56, 57, 97, 98, 99, 100, 101, 102] } : ByteArray).data.toList = digits := rfl

theorem call_hv (c : UInt8) (w : World) :
    Calls Tryd.prog 27 #[.string { data := #[48, 49, 50, 51, 52, 53, 54, 55, 56, 57, 97, 98, 99, 100, 101, 102] }, .int .u8 (c.toNat : Int)] w fun e w' => e = .returned (.int .i64 (hv c)) ∧ w = w' := by
  refine (Idx.strings_IndexByte _ _ _).mono ?_
  rintro e w' ⟨rfl, rfl⟩
  refine ⟨?_, rfl⟩
  rw [Idx.firstIdx_eq, digits_arr]
  simp [hv]

set_option maxHeartbeats 1000000 in
theorem fromHex (s : ByteArray) (w : World) (hs : s.size ≤ 1073741824) :
    Calls Tryd.prog 20 #[.string s] w fun e w' => e = .returned (.tuple #[.string ⟨(unhex s.data.toList).1.toArray⟩, .int .i64 (unhex s.data.toList).2]) ∧ Below w.heap.size w w' := by
  obtain ⟨i0, hi, hz0, hz1, hz2⟩ := info_parts Hex.infoByte
  by_cases hodd : s.size % 2 = 1
  · have hu : unhex s.data.toList = ([], 21) := by unfold unhex; rw [if_pos (by rw [← Lib.size_eq]; exact hodd)]
    rw [hu]
    have t : ((s.size : Int) % 2 != 0) = true := by rw [bne_iff_ne]; omega
    clear hodd hu
    go_enter Tryd.func20, Tryd.ntmps20
    go_wp2
    go_ret2
    exact ⟨rfl, Below.refl _ _⟩
  · have t : ((s.size : Int) % 2 != 0) = false := by rw [bne_eq_false_iff_eq]; omega
    obtain ⟨m, hm⟩ : ∃ m, s.size / 2 = m := ⟨_, rfl⟩
    have em : ((s.size : Int) / 2) = (m : Int) := by omega
    have hm2 : s.size = 2 * m := by omega
    have Em := Lib.hid em
    have Hm2 := Lib.hid hm2
    clear em hm hm2 hodd
    go_enter Tryd.func20, Tryd.ntmps20
    go_wp2_with (at_make; refine wpList_make_full _ rfl _ _ 33 rfl w.heap.size 5 i0 (.int .u8 0) 1 Tryd.underlying33 hi hz0 hz1 .i64 .i64 _ _ m rfl rfl ?c1 ?c2 ?c3 ?c4 ?c5 ?_)
    case c1 => exact Em.out
    case c2 => exact Em.out
    case c3 => rw [hz2]; have := Hm2.out; omega
    case c4 => have := Hm2.out; unfold maxLen; omega
    case c5 => exact Nat.le_refl _
    intro w1 hown hgrow
    have hown0 : w1.ownsRow w.heap.size 5 1 (.slice (some ⟨w.heap.size, 0, none⟩) m m) m (Lib.byteCells (acc s.data.toList 0 m)) := by
      rw [acc_zero]
      rw [toList_madeCells_one] at hown
      simpa [Lib.byteCells] using hown
    clear hown
    go_wp2
    go_loopw [5, 6, 17] (fun _ _ i wr => ∃ k : Nat, k ≤ s.size ∧ i = .int .i64 k ∧ (∀ j c, j < k → s.data.toList[j]? = some c → 0 ≤ hv c) ∧ wr.ownsRow w.heap.size 5 1 (.slice (some ⟨w.heap.size, 0, none⟩) m m) m (Lib.byteCells (acc s.data.toList k m)) ∧ Below w.heap.size w wr) (fun _ _ i _ => s.size - (intOf i).toNat)
    case atStart => exact ⟨0, Nat.zero_le _, rfl, fun j c h => by omega, hown0, (Below.refl _ _).grown hgrow (Nat.le_refl _) (by simp)⟩
    case round =>
      obtain ⟨k, hk, rfl, hall, hrow, hb⟩ := hrel
      have Hall := Lib.hid hall
      clear hall
      by_cases hlt : k < s.size
      · have e0 : (0 : Int) ≤ (k : Int) := Int.natCast_nonneg _
        have e1 : (k : Int) < (s.size : Int) := by omega
        have hbd := hv_bd s[k]
        have hat := Lb.getElem?_bytes s k hlt
        have hev : ¬ s.data.toList.length % 2 = 1 := by rw [← Lib.size_eq]; have := Hm2.out; omega
        by_cases hneg : hv s[k] < 0
        · have hu := Lib.hid (unhex_bad hev hat hneg)
          clear hat hev
          go_wp2_with fail
          refine (call_hv _ _).mono ?_
          rintro e w2 ⟨rfl, rfl⟩
          go_wp2
          go_ret2
          exact ⟨by rw [hu.out]; rfl, hb⟩
        · have hkm : k / 2 < m := by have := Hm2.out; omega
          have hpos : 0 ≤ hv s[k] := by omega
          have hx := (cv_at s.data.toList k).1
          have hcell : wr.cell? ⟨w.heap.size, k / 2, none⟩ = some (.int .u8 (cv s.data.toList k (k / 2) : Nat)) := by
            rw [hrow.cellAt _ (by omega), Lb.cells_getElem?, acc_get, if_pos hkm]
            simp only [Option.map_some, UInt8.toNat_ofNat']
            congr 3
            omega
          have hval := Lib.hid (or_val _ _ _ hx (hn_at hat hpos) (hn_lt s.data.toList k))
          have hset : (Lib.byteCells (acc s.data.toList k m)).set (k / 2) (.int .u8 (((UInt8.ofNat (16 * cv s.data.toList k (k / 2) + hn s.data.toList k)).toNat : Nat) : Int)) = Lib.byteCells (acc s.data.toList (k + 1) m) := by
            rw [Lb.cells_set, ← acc_succ]
          have hst := Lib.hid hset
          have hfz : wr.frozen? ⟨w.heap.size, k / 2, none⟩ = false := hrow.frozenAt _
          have hnew : ∀ j c, j < k + 1 → s.data.toList[j]? = some c → 0 ≤ hv c := by
            intro j c hj hc
            by_cases e : j = k
            · subst e; rw [hat] at hc; obtain rfl := Option.some.inj hc; exact hpos
            · exact Hall.out j c (by omega) hc
          have Hnew := Lib.hid hnew
          clear hset hnew hat hev hx
          go_wp2_with fail
          refine (call_hv _ _).mono ?_
          rintro e w2 ⟨rfl, rfl⟩
          go_wp2
          rw [hval.out]
          go_roundw
          case rel =>
            refine ⟨k + 1, by omega, by go_num, Hnew.out, ?_, hb.setCell (p := ⟨w.heap.size, k / 2, none⟩) (Nat.le_refl _) _⟩
            have := hrow.stored (k / 2) (.int .u8 (((UInt8.ofNat (16 * cv s.data.toList k (k / 2) + hn s.data.toList k)).toNat : Nat) : Int))
            rw [hst.out] at this
            exact this.1
          case measure => simp [intOf]; omega
      · obtain rfl : k = s.size := by omega
        have hev : ¬ s.data.toList.length % 2 = 1 := by rw [← Lib.size_eq]; have := Hm2.out; omega
        have hu := unhex_good hev (fun j c hj => Hall.out j c (by rw [Lib.size_eq]; exact hj))
        have hm' : s.data.toList.length / 2 = m := by rw [← Lib.size_eq]; have := Hm2.out; omega
        rw [hm', ← Lib.size_eq] at hu
        have Hu := Lib.hid hu
        have hcv := Lb.conv_own (P := Tryd.prog) Tryd.underlying33 Tryd.underlying5 Tryd.underlying9 (by rw [acc_length]) hrow
        clear hu hev hm'
        go_wp2
        go_ret2
        exact ⟨by rw [Hu.out]; rfl, hb⟩
end Go.Proofs.YtgkdnnklcbacmaaDoor.Unh
