/-
  The document's Plain gives the text that a word stands for.
-/
import Derived.Test.YtgkdnnklcbacmaaDoorProg
import Derived.Test.YtgkdnnklcbacmaaDoorLib
import Derived.Test.YtgkdnnklcbacmaaDoorPlainP
import Derived.Test.YtgkdnnklcbacmaaDoorRefHex
import Derived.WalkKit
import Derived.WalkLawsBesides
import Derived.WalkSpells
import Derived.Maps.AppendAt
import Derived.Laws.BitsLemmas
import Derived.Lib.Hide
import Derived.KernelRfl
set_option linter.unusedVariables false
namespace Go.Proofs.YtgkdnnklcbacmaaDoor.RefPlain
open Go.RowKit HexP UnhP EscP PlainP

def res (o : Option (List UInt8)) : Value := match o with | some l => .tuple #[.string ⟨l.toArray⟩, .bool true] | none => .tuple #[.string ⟨#[]⟩, .bool false]

theorem ret_tup {a b : List UInt8} (h : a = b) : Ending.returned (.tuple #[.string ⟨a.toArray⟩, .bool true]) = .returned (.tuple #[.string ⟨b.toArray⟩, .bool true]) := by rw [h]

set_option maxHeartbeats 2000000 in
theorem plain (s : ByteArray) (w : World) (hs : s.size ≤ 1073741824) :
    Calls Tryd.prog 16 #[.string s] w fun e w' => e = .returned (res (word s.data.toList)) ∧ Below w.heap.size w w' := by
  obtain ⟨i0, hi, hz0, hz1, hz2⟩ := info_parts RefHex.infoByte
  by_cases h1 : s.data.toList = [37]
  · have hw : word s.data.toList = some [] := by simp [word, h1]
    rw [hw]
    have t1 : s.toList = [37] := by rw [Lib.toList_data]; exact h1
    clear h1 hw
    go_enter Tryd.func16, Tryd.ntmps16
    go_wp2
    go_ret2
    exact ⟨rfl, Below.refl _ _⟩
  have t1 : (s.toList == [37]) = false := by rw [Lib.toList_data]; simpa using h1
  by_cases h2 : s.size = 0
  · have h20 : s.data.toList = [] := List.eq_nil_of_length_eq_zero (by rw [← Lib.size_eq]; exact h2)
    have hw : word s.data.toList = none := by simp [word, h20]
    rw [hw]
    have hz : ¬ (0 : Int) < (s.size : Int) := by omega
    have hzn : decide (0 < s.size) = false := decide_eq_false (by omega)
    have hcv := Lb.conv_own (P := Tryd.prog) (w := w) (B := 0) (l := []) (v := .slice none 0 0) Tryd.underlying33 Tryd.underlying5 Tryd.underlying9 rfl (World.ownsRow_nil _ _ _ _)
    clear h1 h20 hw h2
    go_enter Tryd.func16, Tryd.ntmps16
    go_wp2
    go_loopw [4, 5, 6, 7, 8] (fun v i _ _ _ wr => v = .slice none 0 0 ∧ i = .int .i64 0 ∧ Hid (w = wr)) (fun _ i _ _ _ _ => 0)
    case atStart => exact ⟨rfl, rfl, Lib.hid rfl⟩
    case round =>
      obtain ⟨rfl, rfl, hw⟩ := hrel
      obtain rfl := hw.out
      go_wp2
      go_ret2
      exact ⟨rfl, Below.refl _ _⟩
  have h20 : s.data.toList ≠ [] := fun h => h2 (by rw [Lib.size_eq, h]; rfl)
  have hw : word s.data.toList = un s.data.toList := by simp [word, h1, h20]
  have hpos : (0 : Int) < (s.size : Int) := by omega
  have hposn : decide (0 < s.size) = true := decide_eq_true (by omega)
  have Hw := Lib.hid hw
  clear h1 h2 h20 hw
  go_enter Tryd.func16, Tryd.ntmps16
  go_wp2
  go_loopw [4, 5, 6, 7, 8] (fun v i _ _ _ wr => ∃ (k : Nat) (out : List UInt8), k ≤ s.size ∧ i = .int .i64 k ∧ out.length ≤ k ∧ Hid (un s.data.toList = (un (s.data.toList.drop k)).map (out ++ ·)) ∧ wr.ownsRow w.heap.size 5 1 v out.length (Lib.byteCells out) ∧ Below w.heap.size w wr) (fun _ i _ _ _ _ => s.size - (intOf i).toNat)
  case atStart => exact ⟨0, [], Nat.zero_le _, rfl, by simp, Lib.hid (by simp), World.ownsRow_nil _ _ _ _, Below.refl _ _⟩
  case round =>
    obtain ⟨k, out, hk, rfl, hol, hun, hrow, hb⟩ := hrel
    have hsz := hb.size
    by_cases hlt : k < s.size
    · have e0 : (0 : Int) ≤ (k : Int) := Int.natCast_nonneg _
      have e1 : (k : Int) < (s.size : Int) := by omega
      have hdrop : s.data.toList.drop k = s[k] :: s.data.toList.drop (k + 1) := by rw [List.drop_eq_getElem_cons (by simpa using hlt)]; rfl
      have Hd := Lib.hid hdrop
      clear hdrop
      by_cases hp : s[k] = 37
      · have t3 : ((s[k].toNat : Int) == 37) = true := by rw [hp]; rfl
        have Hp := Lib.hid hp
        clear hp
        obtain ⟨r, hr⟩ : ∃ r, s.data.toList.drop (k + 1) = r := ⟨_, rfl⟩
        have Hr := Lib.hid hr
        have hlen : r.length = s.size - (k + 1) := by rw [← hr, List.length_drop, Lib.size_eq]
        have Hlen := Lib.hid hlen
        by_cases hge : k + 2 < s.size
        · have g1 : (k : Int) + 3 ≤ (s.size : Int) := by omega
          have ext : (s.extract (k + 1) (k + 3)).data.toList = r.take 2 := by
            rw [Lib.extract_data, hr]; congr 1; omega
          have exs : (s.extract (k + 1) (k + 3)).size ≤ 1073741824 := by
            rw [Lib.size_eq, ext]; simp; omega
          have hnext : s.data.toList.drop (k + 3) = r.drop 2 := by rw [← hr, List.drop_drop]
          have Hnext := Lib.hid hnext
          have Ext := Lib.hid ext
          obtain ⟨a, b, t, hrab⟩ : ∃ a b t, r = a :: b :: t := by
            match r, hlen with
            | [], h => simp at h; omega
            | [a], h => simp at h; omega
            | a :: b :: t, _ => exact ⟨a, b, t, rfl⟩
          have Hrab := Lib.hid hrab
          clear hr hlen ext hnext hrab
          go_wp2_with fail
          refine (RefHex.fromHex _ _ exs).mono ?_
          rintro e w1 ⟨rfl, hh1⟩
          rw [Ext.out, Hrab.out, show (a :: b :: t).take 2 = [a, b] from rfl]
          have row1 := Lb.row_below hrow hh1
          have hsx := hh1.size
          have hb1 := hb.trans (hh1.mono hsz)
          clear exs hh1 hrow
          by_cases hz : (unhex [a, b]).2 = 0
          · have hl1 := unhex_two_len a b hz
            obtain ⟨z, hz1⟩ := List.length_eq_one_iff.1 hl1
            have hnew : un s.data.toList = (un (s.data.toList.drop (k + 3))).map ((out ++ [z]) ++ ·) := by
              rw [hun.out, Hd.out, Hp.out, Hr.out, Hrab.out, un_two, if_pos hz, Hnext.out, Hrab.out, hz1]
              show Option.map _ (Option.map _ (un t)) = Option.map _ (un t)
              cases un t <;> simp
            have Hnew := Lib.hid hnew
            rw [hz, hz1]
            clear hz hl1 hz1 hnew
            go_wp2_with (at_builtin; refine wpList_append_own _ rfl _ _ 33 rfl w.heap.size 5 i0 (.int .u8 0) 1 1 Tryd.underlying33 hi hz0 hz1 hz2 rfl (by decide) _ _ _ rfl (row1.alloc _) ⟨w1.heap.size, 0, none⟩ 1 1 [.int .u8 (z.toNat : Int)] rfl rfl (cell_one_new _ _ _) (by simp [Value.oneCell']) (by unfold maxLen; omega) (by omega) (by simp; omega) ?_; intro v' w2 hown' hgrow' _)
            go_roundw
            case rel =>
              refine ⟨k + 3, out ++ [z], by omega, by go_num, by simp; omega, Hnew, ?_, (hb1.alloc (by omega) _).grown hgrow' (by simp; omega) (fun j hj => (row1.lt j hj).1)⟩
              rw [Lib.byteCells_append, List.length_append]
              exact hown'
            case measure => simp [intOf]; omega
          · have hun0 : un s.data.toList = none := by rw [hun.out, Hd.out, Hp.out, Hr.out, Hrab.out, un_two, if_neg hz]; rfl
            have Hun0 := Lib.hid hun0
            clear hun0
            rw [unhex_err _ hz]
            have t4 : ((unhex [a, b]).2 != 0) = true := by rw [bne_iff_ne]; exact hz
            clear hz
            go_wp2
            go_ret2
            exact ⟨by rw [Hw.out, Hun0.out]; rfl, hb1⟩
        · have g1 : (s.size : Int) ≤ (k : Int) + 2 := by omega
          have hun0 : un s.data.toList = none := by
            rw [hun.out, Hd.out, Hp.out, Hr.out]
            match r, hlen with
            | [], h => rw [un_none]; rfl
            | [a], h => rw [un_one]; rfl
            | a :: b :: t, h => simp at h; omega
          have Hun0 := Lib.hid hun0
          clear hun0 hr hlen hge
          go_wp2
          go_ret2
          exact ⟨by rw [Hw.out, Hun0.out]; rfl, hb⟩
      · have t3 : ((s[k].toNat : Int) == 37) = false := by
          rw [beq_eq_false_iff_ne]; intro h; exact hp (UInt8.toNat_inj.1 (by have : s[k].toNat = 37 := by omega
                                                                             rw [this]; rfl))
        have hnew : un s.data.toList = (un (s.data.toList.drop (k + 1))).map ((out ++ [s[k]]) ++ ·) := by
          rw [hun.out, Hd.out, un_byte hp]
          cases un (s.data.toList.drop (k + 1)) <;> simp
        have Hnew := Lib.hid hnew
        clear hnew hp
        go_wp2_with (at_builtin; refine wpList_append_own _ rfl _ _ 33 rfl w.heap.size 5 i0 (.int .u8 0) 1 1 Tryd.underlying33 hi hz0 hz1 hz2 rfl (by decide) _ _ _ rfl (hrow.alloc _) ⟨wr.heap.size, 0, none⟩ 1 1 [.int .u8 (s[k].toNat : Int)] rfl rfl (cell_one_new _ _ _) (by simp [Value.oneCell']) (by unfold maxLen; omega) (by omega) (by simp; omega) ?_; intro v' w2 hown' hgrow' _)
        go_roundw
        case rel =>
          refine ⟨k + 1, out ++ [s[k]], by omega, by go_num, by simp; omega, Hnew, ?_, (hb.alloc (by omega) _).grown hgrow' (by simp; omega) (fun j hj => (hrow.lt j hj).1)⟩
          rw [Lib.byteCells_append, List.length_append]
          exact hown'
        case measure => simp [intOf]; omega
    · obtain rfl : k = s.size := by omega
      have hfin : un s.data.toList = some out := by
        rw [hun.out, List.drop_eq_nil_of_le (by simp), un_nil]; simp
      have Hfin := Lib.hid hfin
      have hcv := Lb.conv_own (P := Tryd.prog) Tryd.underlying33 Tryd.underlying5 Tryd.underlying9 rfl hrow
      clear hfin
      go_wp2
      go_ret2
      exact ⟨by rw [Hw.out, Hfin.out]; rfl, hb⟩
end Go.Proofs.YtgkdnnklcbacmaaDoor.RefPlain
