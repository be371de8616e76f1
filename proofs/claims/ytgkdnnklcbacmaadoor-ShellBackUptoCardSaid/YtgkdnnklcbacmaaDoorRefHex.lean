/-
  The document's hexadecimal digits: digit, Hex and FromHex give what radix gives.
-/
import Derived.Test.YtgkdnnklcbacmaaDoorProg
import Derived.Test.YtgkdnnklcbacmaaDoorLib
import Derived.Test.YtgkdnnklcbacmaaDoorUnhP
import Derived.WalkKit
import Derived.WalkLawsBesides
import Derived.WalkSpells
import Derived.Deep.QuietTactic
import Derived.BigQuiet
import Derived.Laws.BitsLemmas
import Derived.Lib.Hide
import Derived.KernelRfl
set_option linter.unusedVariables false
namespace Go.Proofs.YtgkdnnklcbacmaaDoor.RefHex
open Go.RowKit HexP UnhP

theorem infoByte : (Tryd.prog.info? 5).map (fun i => (i.zero, i.size, i.bytes)) = some (some (.int .u8 0), 1, 1) := by kernel_rfl

theorem dig_lo (v : Nat) (h : v < 10) : ((dig v).toNat : Int) = 48 + v := by
  unfold dig; rw [if_pos h, UInt8.toNat_ofNat']; omega
theorem dig_hi (v : Nat) (h : ¬ v < 10) (h2 : v < 16) : ((dig v).toNat : Int) = 87 + v := by
  unfold dig; rw [if_neg h, UInt8.toNat_ofNat']; omega

theorem ret_u8 {a b : Int} (h : a = b) : Ending.returned (.int .u8 a) = .returned (.int .u8 b) := by rw [h]

theorem digit (x : Int) (v : Nat) (hx : x = v) (hv : v < 16) (w : World) :
    Calls Tryd.prog 22 #[.int .u8 x] w fun e w' => e = .returned (.int .u8 ((dig v).toNat : Int)) ∧ w' = w := by
  by_cases h : v < 10
  · have h1 : x < 10 := by omega
    have h0 : 0 ≤ x := by omega
    have hd := Lib.hid (dig_lo v h)
    have Hx := Lib.hid hx
    clear hx
    go_enter Tryd.func22, Tryd.ntmps22
    go_wp2
    go_ret
    exact ⟨ret_u8 (by rw [hd.out]; have := Hx.out; omega), rfl⟩
  · have h1 : 10 ≤ x := by omega
    have h2 : x < 16 := by omega
    have hd := Lib.hid (dig_hi v h hv)
    have Hx := Lib.hid hx
    clear hx
    go_enter Tryd.func22, Tryd.ntmps22
    go_wp2
    go_ret
    exact ⟨ret_u8 (by rw [hd.out]; have := Hx.out; omega), rfl⟩

/-! ### Hex -/
def part (l : List UInt8) (k n : Nat) : List UInt8 := hexL (l.take k) ++ List.replicate (2 * (n - k)) 0
theorem part_length (l : List UInt8) (k n : Nat) (h : n = l.length) (hk : k ≤ n) : (part l k n).length = 2 * n := by
  unfold part
  rw [List.length_append, hexL_length, List.length_take, List.length_replicate, h]
  omega
theorem set_two (p r : List UInt8) (a b x y : UInt8) (n : Nat) (h : n = p.length) : ((p ++ x :: y :: r).set n a).set (n + 1) b = p ++ a :: b :: r := by
  subst h
  induction p with
  | nil => rfl
  | cons c t ih => simp
theorem part_succ (l : List UInt8) (k n : Nat) (h : n = l.length) (c : UInt8) (hc : l[k]? = some c) : ((part l k n).set (2 * k) (dig (c.toNat / 16))).set (2 * k + 1) (dig (c.toNat % 16)) = part l (k + 1) n := by
  have hk : k < l.length := by
    rcases Nat.lt_or_ge k l.length with h' | h'
    · exact h'
    · rw [List.getElem?_eq_none h'] at hc; cases hc
  unfold part
  have e1 : List.replicate (2 * (n - k)) (0 : UInt8) = 0 :: 0 :: List.replicate (2 * (n - (k + 1))) 0 := by
    rw [show 2 * (n - k) = (2 * (n - (k + 1)) + 1) + 1 from by omega, List.replicate_succ, List.replicate_succ]
  have e2 : l.take (k + 1) = l.take k ++ [c] := by
    rw [List.take_add_one, hc]; rfl
  rw [e1, set_two _ _ _ _ _ _ _ (by rw [hexL_length, List.length_take]; omega), e2, hexL_snoc]
  simp [two]
theorem part_full (l : List UInt8) (n : Nat) (h : n = l.length) : part l n n = hexL l := by
  unfold part
  rw [h, List.take_length]
  simp

set_option maxHeartbeats 1000000 in
theorem hex (s : ByteArray) (w : World) (hs : s.size ≤ 1073741824) :
    Calls Tryd.prog 17 #[.string s] w fun e w' => e = .returned (.string ⟨(hexL s.data.toList).toArray⟩) ∧ Below w.heap.size w w' := by
  obtain ⟨i0, hi, hz0, hz1, hz2⟩ := info_parts infoByte
  go_enter Tryd.func17, Tryd.ntmps17
  go_wp2_with (at_make; refine wpList_make_full _ rfl _ _ 33 rfl w.heap.size 5 i0 (.int .u8 0) 1 Tryd.underlying33 hi hz0 hz1 .i64 .i64 _ _ (2 * s.size) rfl rfl ?c1 ?c2 ?c3 ?c4 ?c5 ?_)
  case c1 => omega
  case c2 => omega
  case c3 => rw [hz2]; omega
  case c4 => unfold maxLen; omega
  case c5 => exact Nat.le_refl _
  intro w1 hown hgrow
  have hown0 : w1.ownsRow w.heap.size 5 1 (.slice (some ⟨w.heap.size, 0, none⟩) (2 * s.size) (2 * s.size)) (2 * s.size) (Lib.byteCells (part s.data.toList 0 s.size)) := by
    rw [toList_madeCells_one] at hown
    simpa [Lib.byteCells, part, hexL] using hown
  clear hown
  go_wp2
  go_loopw [4] (fun i wr => ∃ k : Nat, k ≤ s.size ∧ i = .int .i64 k ∧ wr.ownsRow w.heap.size 5 1 (.slice (some ⟨w.heap.size, 0, none⟩) (2 * s.size) (2 * s.size)) (2 * s.size) (Lib.byteCells (part s.data.toList k s.size)) ∧ Below w.heap.size w wr) (fun i _ => s.size - (intOf i).toNat)
  case atStart => exact ⟨0, Nat.zero_le _, rfl, hown0, (Below.refl _ _).grown hgrow (Nat.le_refl _) (by simp)⟩
  case round =>
    obtain ⟨k, hk, rfl, hrow, hb⟩ := hrel
    by_cases hlt : k < s.size
    · have e0 : (0 : Int) ≤ (k : Int) := Int.natCast_nonneg _
      have e1 : (k : Int) < (s.size : Int) := by omega
      have hc : s[k].toNat < 256 := s[k].toNat_lt
      have hst := part_succ s.data.toList k s.size (Lib.size_eq s) s[k] (Lb.getElem?_bytes s k hlt)
      have Hst := Lib.hid hst
      have f0 : wr.frozen? ⟨w.heap.size, 2 * k, none⟩ = false := hrow.frozenAt _
      have f1 : wr.frozen? ⟨w.heap.size, 2 * k + 1, none⟩ = false := hrow.frozenAt _
      have p0 : wr.cell? ⟨w.heap.size, 2 * k, none⟩ = some (.int .u8 (((part s.data.toList k s.size)[2 * k]?.getD 0).toNat : Int)) := by
        rw [hrow.cellAt _ (by omega), Lb.cells_getElem?, List.getElem?_eq_getElem (by rw [part_length _ _ _ (Lib.size_eq s) hk]; omega)]; rfl
      have p1 : wr.cell? ⟨w.heap.size, 2 * k + 1, none⟩ = some (.int .u8 (((part s.data.toList k s.size)[2 * k + 1]?.getD 0).toNat : Int)) := by
        rw [hrow.cellAt _ (by omega), Lb.cells_getElem?, List.getElem?_eq_getElem (by rw [part_length _ _ _ (Lib.size_eq s) hk]; omega)]; rfl
      clear hst
      go_wp2_with fail
      refine (digit _ (s[k].toNat / 16) (by omega) (by omega) _).mono ?_
      rintro e w2 ⟨rfl, rfl⟩
      go_wp2_with fail
      refine (digit _ (s[k].toNat % 16) (by omega) (by omega) _).mono ?_
      rintro e w2 ⟨rfl, rfl⟩
      go_wp2_with fail
      go_roundw
      case rel =>
        refine ⟨k + 1, by omega, by go_num, ?_, (hb.setCell (p := ⟨w.heap.size, 2 * k, none⟩) (Nat.le_refl _) _).setCell (p := ⟨w.heap.size, 2 * k + 1, none⟩) (Nat.le_refl _) _⟩
        have h1 := (hrow.stored (2 * k) (.int .u8 ((dig (s[k].toNat / 16)).toNat : Int))).1
        rw [Lb.cells_set] at h1
        have h2 := (h1.stored (2 * k + 1) (.int .u8 ((dig (s[k].toNat % 16)).toNat : Int))).1
        rw [Lb.cells_set, Hst.out] at h2
        exact h2
      case measure => simp [intOf]; omega
    · obtain rfl : k = s.size := by omega
      have hfull := Lib.hid (part_full s.data.toList s.size (Lib.size_eq s))
      have hcv := Lb.conv_own (P := Tryd.prog) Tryd.underlying33 Tryd.underlying5 Tryd.underlying9 (by rw [part_length _ _ _ (Lib.size_eq s) (Nat.le_refl _)]) hrow
      go_wp2
      go_ret
      exact ⟨by rw [hfull.out]; rfl, hb⟩
/-! ### FromHex -/
theorem dig_hv (d : Nat) (c : UInt8) (h : d < 16) : (((dig d).toNat : Int) == (c.toNat : Int)) = decide (hv c = (d : Int)) := by
  have key : ∀ (d : Fin 16) (c : Fin 256), (((dig d.val).toNat : Int) == (((UInt8.ofNat c.val).toNat : Nat) : Int)) = decide (hv (UInt8.ofNat c.val) = ((d.val : Nat) : Int)) := by decide +kernel
  have := key ⟨d, h⟩ ⟨c.toNat, c.toNat_lt⟩
  simpa using this

/-- the value that the loop over the digits has found when it has tried d of them -/
def found (c : UInt8) (d : Nat) : Int := if 0 ≤ hv c ∧ hv c < d then hv c else 16
theorem found_hit {c : UInt8} {d : Nat} (h : hv c = (d : Int)) : found c (d + 1) = d := by unfold found; rw [if_pos (by omega), h]
theorem found_miss {c : UInt8} {d : Nat} (h : ¬ hv c = (d : Int)) : found c (d + 1) = found c d := by
  unfold found
  by_cases h1 : 0 ≤ hv c ∧ hv c < d
  · rw [if_pos h1, if_pos (by omega)]
  · rw [if_neg h1, if_neg (by omega)]
theorem found_zero (c : UInt8) : found c 0 = 16 := by unfold found; rw [if_neg (by omega)]
theorem found_all (c : UInt8) : found c 16 = if hv c < 0 then 16 else hv c := by
  have := hv_bd c
  unfold found
  by_cases h : hv c < 0
  · rw [if_neg (by omega), if_pos h]
  · rw [if_pos (by omega), if_neg h]
theorem found_bd (c : UInt8) (d : Nat) : 0 ≤ found c d ∧ found c d ≤ 16 := by
  have := hv_bd c
  unfold found; split <;> omega

theorem sum_val (x : Nat) (h : Int) (n : Nat) (hx : x < 16) (hh : h = n) (hn : n < 16) : ((x : Int) * 16 + h) = (((UInt8.ofNat (16 * x + n)).toNat : Nat) : Int) := by
  subst hh
  rw [UInt8.toNat_ofNat']
  omega

set_option maxHeartbeats 1000000 in
theorem fromHex (s : ByteArray) (w : World) (hs : s.size ≤ 1073741824) :
    Calls Tryd.prog 21 #[.string s] w fun e w' => e = .returned (.tuple #[.string ⟨(unhex s.data.toList).1.toArray⟩, .int .i64 (unhex s.data.toList).2]) ∧ Below w.heap.size w w' := by
  obtain ⟨i0, hi, hz0, hz1, hz2⟩ := info_parts infoByte
  by_cases hodd : s.size % 2 = 1
  · have hu : unhex s.data.toList = ([], 21) := unhex_odd (by rw [← Lib.size_eq]; exact hodd)
    rw [hu]
    have t : ((s.size : Int) % 2 == 1) = true := by rw [beq_iff_eq]; omega
    clear hodd hu
    go_enter Tryd.func21, Tryd.ntmps21
    go_wp2
    go_ret2
    exact ⟨rfl, Below.refl _ _⟩
  · have t : ((s.size : Int) % 2 == 1) = false := by rw [beq_eq_false_iff_ne]; omega
    obtain ⟨m, hm⟩ : ∃ m, s.size / 2 = m := ⟨_, rfl⟩
    have em : ((s.size : Int) / 2) = (m : Int) := by omega
    have hm2 : s.size = 2 * m := by omega
    have Em := Lib.hid em
    have Hm2 := Lib.hid hm2
    clear em hm hm2 hodd
    go_enter Tryd.func21, Tryd.ntmps21
    go_wp2_with (at_make; refine wpList_make_full _ rfl _ _ 33 rfl w.heap.size 5 i0 (.int .u8 0) 1 Tryd.underlying33 hi hz0 hz1 .i64 .i64 _ _ m rfl rfl ?c1 ?c2 ?c3 ?c4 ?c5 ?_)
    case c1 => exact Em.out
    case c2 => exact Em.out
    case c3 => rw [hz2]; have := Hm2.out; omega
    case c4 => have := Hm2.out; unfold maxLen; omega
    case c5 => exact Nat.le_refl _
    intro w1 hown hgrow
    have hown0 : w1.ownsRow w.heap.size 5 1 (.slice (some ⟨w.heap.size, 0, none⟩) m m) m (Lib.byteCells (acc s.data.toList 0 m)) := by
      rw [acc_zero]
      rw [toList_madeCells_one] at hown
      simpa [Lib.byteCells] using hown
    clear hown
    go_wp2
    go_loopw [5, 6, 7] (fun i _ _ wr => ∃ k : Nat, k ≤ s.size ∧ i = .int .i64 k ∧ (∀ j c, j < k → s.data.toList[j]? = some c → 0 ≤ hv c) ∧ wr.ownsRow w.heap.size 5 1 (.slice (some ⟨w.heap.size, 0, none⟩) m m) m (Lib.byteCells (acc s.data.toList k m)) ∧ Below w.heap.size w wr) (fun i _ _ _ => s.size - (intOf i).toNat)
    case atStart => exact ⟨0, Nat.zero_le _, rfl, fun j c h => by omega, hown0, (Below.refl _ _).grown hgrow (Nat.le_refl _) (by simp)⟩
    case round =>
      obtain ⟨k, hk, rfl, hall, hrow, hb⟩ := hrel
      have Hall := Lib.hid hall
      clear hall
      by_cases hlt : k < s.size
      · have e0 : (0 : Int) ≤ (k : Int) := Int.natCast_nonneg _
        have e1 : (k : Int) < (s.size : Int) := by omega
        go_wp2
        obtain ⟨wo, rfl⟩ : ∃ wo : World, wo = wr := ⟨_, rfl⟩
        go_loopw [6, 7] (fun v dd wr => ∃ d : Nat, d ≤ 16 ∧ dd = .int .i64 d ∧ v = .int .i64 (found s[k] d) ∧ Lb.Sm wo wr) (fun _ dd _ => 16 - (intOf dd).toNat)
        case atStart => exact ⟨0, by omega, rfl, by rw [found_zero], Lb.Sm.refl _⟩
        case round =>
          obtain ⟨d, hd, rfl, rfl, hsm⟩ := hrel
          by_cases hd16 : d < 16
          · have d0 : (0 : Int) ≤ (d : Int) := Int.natCast_nonneg _
            have hdv := dig_hv d s[k] hd16
            have wd : IntKind.u8.wrap (d : Int) = (d : Int) := by simp [IntKind.wrap_u8]; omega
            by_cases hh : hv s[k] = (d : Int)
            · have tt : (((dig d).toNat : Int) == (s[k].toNat : Int)) = true := by rw [hdv]; simpa using hh
              have Hf := Lib.hid (found_hit hh)
              clear hdv hh
              go_wp2
              go_quiet ((go_at_call 22; refine Calls.quiet_of_same (digit _ d rfl hd16 _)))
              go_wp2
              go_roundw
              case rel => exact ⟨d + 1, by omega, by go_num, by rw [Hf.out], hsm.trans (Lb.Sm.drewN _ _)⟩
              case measure => simp [intOf]; omega
            · have tt : (((dig d).toNat : Int) == (s[k].toNat : Int)) = false := by rw [hdv]; simpa using hh
              have Hf := Lib.hid (found_miss hh)
              clear hdv hh
              go_wp2
              go_quiet ((go_at_call 22; refine Calls.quiet_of_same (digit _ d rfl hd16 _)))
              go_wp2
              go_roundw
              case rel => exact ⟨d + 1, by omega, by go_num, by rw [Hf.out], hsm.trans (Lb.Sm.drewN _ _)⟩
              case measure => simp [intOf]; omega
          · obtain rfl : d = 16 := by omega
            have hfa := found_all s[k]
            replace hrow := hsm.row hrow
            replace hb := hsm.below hb
            clear hsm
            have hat := Lb.getElem?_bytes s k hlt
            have hev : ¬ s.data.toList.length % 2 = 1 := by rw [← Lib.size_eq]; have := Hm2.out; omega
            by_cases hneg : hv s[k] < 0
            · have hu := Lib.hid (unhex_bad hev hat hneg)
              rw [if_pos hneg] at hfa
              rw [hfa]
              clear hat hev hfa hneg
              go_wp2
              go_ret2
              exact ⟨by rw [hu.out]; rfl, hb⟩
            · rw [if_neg hneg] at hfa
              rw [hfa]
              have hbd := hv_bd s[k]
              have t16 : (hv s[k] == 16) = false := by rw [beq_eq_false_iff_ne]; omega
              have hkm : k / 2 < m := by have := Hm2.out; omega
              have hpos : 0 ≤ hv s[k] := by omega
              have hx := (cv_at s.data.toList k).1
              have hcell : wr.cell? ⟨w.heap.size, k / 2, none⟩ = some (.int .u8 (cv s.data.toList k (k / 2) : Nat)) := by
                rw [hrow.cellAt _ (by omega), Lb.cells_getElem?, acc_get, if_pos hkm]
                simp only [Option.map_some, UInt8.toNat_ofNat']
                congr 3
                omega
              have hval := Lib.hid (sum_val _ _ _ hx (hn_at hat hpos) (hn_lt s.data.toList k))
              have hset : (Lib.byteCells (acc s.data.toList k m)).set (k / 2) (.int .u8 (((UInt8.ofNat (16 * cv s.data.toList k (k / 2) + hn s.data.toList k)).toNat : Nat) : Int)) = Lib.byteCells (acc s.data.toList (k + 1) m) := by
                rw [Lb.cells_set, ← acc_succ]
              have hst := Lib.hid hset
              have hfz : wr.frozen? ⟨w.heap.size, k / 2, none⟩ = false := hrow.frozenAt _
              have hnew : ∀ j c, j < k + 1 → s.data.toList[j]? = some c → 0 ≤ hv c := by
                intro j c hj hc
                by_cases e : j = k
                · subst e; rw [hat] at hc; obtain rfl := Option.some.inj hc; exact hpos
                · exact Hall.out j c (by omega) hc
              have Hnew := Lib.hid hnew
              clear hset hnew hat hev hfa
              go_wp2
              rw [hval.out]
              go_roundw
              case rel =>
                refine ⟨k + 1, by omega, by go_num, Hnew.out, ?_, hb.setCell (p := ⟨w.heap.size, k / 2, none⟩) (Nat.le_refl _) _⟩
                have := hrow.stored (k / 2) (.int .u8 (((UInt8.ofNat (16 * cv s.data.toList k (k / 2) + hn s.data.toList k)).toNat : Nat) : Int))
                rw [hst.out] at this
                exact this.1
              case measure => simp [intOf]; omega
      · obtain rfl : k = s.size := by omega
        have hev : ¬ s.data.toList.length % 2 = 1 := by rw [← Lib.size_eq]; have := Hm2.out; omega
        have hu := unhex_good hev (fun j c hj => Hall.out j c (by rw [Lib.size_eq]; exact hj))
        have hm' : s.data.toList.length / 2 = m := by rw [← Lib.size_eq]; have := Hm2.out; omega
        rw [hm', ← Lib.size_eq] at hu
        have Hu := Lib.hid hu
        have hcv := Lb.conv_own (P := Tryd.prog) Tryd.underlying33 Tryd.underlying5 Tryd.underlying9 (by rw [acc_length]) hrow
        clear hu hev hm'
        go_wp2
        go_ret2
        exact ⟨by rw [Hu.out]; rfl, hb⟩
end Go.Proofs.YtgkdnnklcbacmaaDoor.RefHex
