/-
  shell.plain gives the text that a word stands for.
-/
import Derived.Test.YtgkdnnklcbacmaaDoorProg
import Derived.Test.YtgkdnnklcbacmaaDoorLib
import Derived.Test.YtgkdnnklcbacmaaDoorPlainP
import Derived.Test.YtgkdnnklcbacmaaDoorUnh
import Derived.Test.YtgkdnnklcbacmaaDoorBld
import Derived.WalkKit
import Derived.WalkLawsBesides
import Derived.WalkSpells
import Derived.Lib.Hide
import Derived.KernelRfl
set_option linter.unusedVariables false
namespace Go.Proofs.YtgkdnnklcbacmaaDoor.Plain
open Go.RowKit HexP UnhP PlainP

def res (o : Option (List UInt8)) : Value := match o with | some l => .tuple #[.string ⟨l.toArray⟩, .bool true] | none => .tuple #[.string ⟨#[]⟩, .bool false]

set_option maxHeartbeats 1000000 in
theorem plain (s : ByteArray) (w : World) (hs : s.size ≤ 1073741824) :
    Calls Tryd.prog 15 #[.string s] w fun e w' => e = .returned (res (word s.data.toList)) ∧ Below w.heap.size w w' := by
  by_cases h1 : s.data.toList = [37]
  · have hw : word s.data.toList = some [] := by simp [word, h1]
    rw [hw]
    have t1 : s.toList = [37] := by rw [Lib.toList_data]; exact h1
    clear h1 hw
    go_enter Tryd.func15, Tryd.ntmps15
    go_wp2
    go_ret2
    exact ⟨rfl, Below.refl _ _⟩
  by_cases h2 : s.data.toList = []
  · have hw : word s.data.toList = none := by simp [word, h2]
    rw [hw]
    have t1 : s.toList = [] := by rw [Lib.toList_data]; exact h2
    clear h1 h2 hw
    go_enter Tryd.func15, Tryd.ntmps15
    go_wp2
    go_ret2
    exact ⟨rfl, Below.refl _ _⟩
  have hw : word s.data.toList = un s.data.toList := by simp [word, h1, h2]
  have t1 : (s.toList == [37]) = false := by rw [Lib.toList_data]; simpa using h1
  have t2 : s.toList.isEmpty = false := by rw [Lib.toList_data]; simpa using h2
  have Hw := Lib.hid hw
  clear h1 h2 hw
  go_enter Tryd.func15, Tryd.ntmps15
  go_wp2
  go_loopw [5, 6, 7] (fun i _ _ wr => ∃ (k : Nat) (out : List UInt8), k ≤ s.size ∧ i = .int .i64 k ∧ out.length ≤ k ∧ Hid (un s.data.toList = (un (s.data.toList.drop k)).map (out ++ ·)) ∧ Lib.IsBuilder 35 5 w.heap.size w.heap.size (Lib.byteCells out) wr ∧ Below w.heap.size w wr) (fun i _ _ _ => s.size - (intOf i).toNat)
  case atStart => exact ⟨0, [], Nat.zero_le _, rfl, by simp, Lib.hid (by simp), Lib.fresh_isBuilder _ _ _, (Below.refl _ _).alloc (Nat.le_refl _) _⟩
  case round =>
    obtain ⟨k, out, hk, rfl, hol, hun, hB, hb⟩ := hrel
    have hsz := hb.size
    by_cases hlt : k < s.size
    · have e0 : (0 : Int) ≤ (k : Int) := Int.natCast_nonneg _
      have e1 : (k : Int) < (s.size : Int) := by omega
      have hdrop : s.data.toList.drop k = s[k] :: s.data.toList.drop (k + 1) := by rw [List.drop_eq_getElem_cons (by simpa using hlt)]; rfl
      have Hd := Lib.hid hdrop
      clear hdrop
      by_cases hp : s[k] = 37
      · have t3 : ((s[k].toNat : Int) != 37) = false := by rw [hp]; rfl
        have Hp := Lib.hid hp
        clear hp
        have ext : (s.extract (k + 1) (min ((k : Int) + 3) (s.size : Int)).toNat).data.toList = (s.data.toList.drop (k + 1)).take 2 := by
          rw [Lib.extract_data]
          rw [List.take_eq_take_iff]
          have := Lib.size_eq s
          simp only [List.length_drop]
          omega
        have exs : (s.extract (k + 1) (min ((k : Int) + 3) (s.size : Int)).toNat).size ≤ 1073741824 := by
          rw [Lib.size_eq, ext]
          simp
          omega
        have Ext := Lib.hid ext
        clear ext
        obtain ⟨r, hr⟩ : ∃ r, s.data.toList.drop (k + 1) = r := ⟨_, rfl⟩
        have Hr := Lib.hid hr
        have hnext : s.data.toList.drop (k + 3) = r.drop 2 := by rw [← hr, List.drop_drop]
        have Hnext := Lib.hid hnext
        have hlen : r.length = s.size - (k + 1) := by rw [← hr, List.length_drop, Lib.size_eq]
        have Hlen := Lib.hid hlen
        clear hr hnext hlen
        go_wp2_with fail
        refine (Unh.fromHex _ _ exs).mono ?_
        rintro e w1 ⟨rfl, hh1⟩
        rw [Ext.out, Hr.out]
        have hBx := Lb.builder_below hB hh1
        have hsx := hh1.size
        have hb1 := hb.trans (hh1.mono hsz)
        clear exs hh1 hB
        match r, Hr, Hnext, Hlen with
        | [], Hr, Hnext, Hlen =>
          have hun0 : un s.data.toList = none := by rw [hun.out, Hd.out, Hp.out, Hr.out, un_none]; rfl
          have Hun0 := Lib.hid hun0
          clear hun0
          rw [List.take_nil, unhex_nil]
          go_wp2
          go_ret2
          exact ⟨by rw [Hw.out, Hun0.out]; rfl, hb1⟩
        | [a], Hr, Hnext, Hlen =>
          have hun0 : un s.data.toList = none := by rw [hun.out, Hd.out, Hp.out, Hr.out, un_one]; rfl
          have Hun0 := Lib.hid hun0
          clear hun0
          rw [show [a].take 2 = [a] from rfl, unhex_one]
          go_wp2
          go_ret2
          exact ⟨by rw [Hw.out, Hun0.out]; rfl, hb1⟩
        | a :: b :: t, Hr, Hnext, Hlen =>
          rw [show (a :: b :: t).take 2 = [a, b] from rfl]
          by_cases hz : (unhex [a, b]).2 = 0
          · have hl1 := unhex_two_len a b hz
            obtain ⟨z, hz1⟩ := List.length_eq_one_iff.1 hl1
            have hnew : un s.data.toList = (un (s.data.toList.drop (k + 3))).map ((out ++ [z]) ++ ·) := by
              rw [hun.out, Hd.out, Hp.out, Hr.out, un_two, if_pos hz, Hnext.out, hz1]
              show Option.map _ (Option.map _ (un t)) = Option.map _ (un t)
              cases un t <;> simp
            have Hnew := Lib.hid hnew
            have hk3 : k + 3 ≤ s.size := by have := Hlen.out; simp at this; omega
            rw [hz, hz1]
            have t5 : ({ data := [z].toArray } : ByteArray).toList.isEmpty = false := by rw [Lib.toList_data]; rfl
            have t6 : ({ data := #[z] } : ByteArray).toList.isEmpty = false := by rw [Lib.toList_data]; rfl
            clear hz hl1 hz1 hnew
            go_wp2_with fail
            refine (Bld.writeString _ _ _ _ _ hBx (by rw [Lib.byteCells_length, show ({ data := #[z] } : ByteArray).size = 1 from rfl]; omega) (by omega)).mono ?_
            rintro e w2 ⟨rfl, hB1, hb2⟩
            have hB2 : Lib.IsBuilder 35 5 w.heap.size w.heap.size (Lib.byteCells (out ++ [z])) w2 := by
              rw [Lib.byteCells_append]
              exact .inr hB1
            go_wp2
            go_roundw
            case rel => exact ⟨k + 3, out ++ [z], by omega, by go_num, by simp; omega, Hnew, hB2, hb1.trans hb2⟩
            case measure => simp [intOf]; omega
          · have hun0 : un s.data.toList = none := by rw [hun.out, Hd.out, Hp.out, Hr.out, un_two, if_neg hz]; rfl
            have Hun0 := Lib.hid hun0
            clear hun0
            rw [unhex_err _ hz]
            have t4 : ((unhex [a, b]).2 != 0) = true := by rw [bne_iff_ne]; exact hz
            clear hz
            go_wp2
            go_ret2
            exact ⟨by rw [Hw.out, Hun0.out]; rfl, hb1⟩
      · have t3 : ((s[k].toNat : Int) != 37) = true := by
          rw [bne_iff_ne]; intro h; exact hp (UInt8.toNat_inj.1 (by have : s[k].toNat = 37 := by omega
                                                                    rw [this]; rfl))
        have hnew : un s.data.toList = (un (s.data.toList.drop (k + 1))).map ((out ++ [s[k]]) ++ ·) := by
          rw [hun.out, Hd.out, un_byte hp]
          cases un (s.data.toList.drop (k + 1)) <;> simp
        have Hnew := Lib.hid hnew
        clear hnew hp
        go_wp2_with fail
        refine (Bld.writeByte _ _ _ _ _ hB (by rw [Lib.byteCells_length]; omega) (by omega)).mono ?_
        rintro e w1 ⟨rfl, hB1, hb1⟩
        have hB2 : Lib.IsBuilder 35 5 w.heap.size w.heap.size (Lib.byteCells (out ++ [s[k]])) w1 := by
          rw [Lib.byteCells_append]
          exact .inr hB1
        go_wp2
        go_roundw
        case rel => exact ⟨k + 1, out ++ [s[k]], by omega, by go_num, by simp; omega, Hnew, hB2, hb.trans hb1⟩
        case measure => simp [intOf]; omega
    · obtain rfl : k = s.size := by omega
      have hfin : un s.data.toList = some out := by
        rw [hun.out, List.drop_eq_nil_of_le (by simp), un_nil]; simp
      have Hfin := Lib.hid hfin
      clear hfin
      go_wp2_with fail
      refine (Bld.string_any _ _ _ _ hB hb.size).mono ?_
      rintro e w1 ⟨rfl, hb1⟩
      go_wp2
      go_ret2
      exact ⟨by rw [Hw.out, Hfin.out]; rfl, hb.trans hb1⟩
end Go.Proofs.YtgkdnnklcbacmaaDoor.Plain
