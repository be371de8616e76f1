/-
  The document's Words gives the words of a line.
-/
import Derived.Test.YtgkdnnklcbacmaaDoorProg
import Derived.Test.YtgkdnnklcbacmaaDoorLib
import Derived.Test.YtgkdnnklcbacmaaDoorWordsP
import Derived.Test.YtgkdnnklcbacmaaDoorRefPlain
import Derived.WalkKit
import Derived.WalkLawsBesides
import Derived.WalkSpells
import Derived.Maps.AppendAt
import Derived.Lib.Hide
import Derived.KernelRfl
set_option linter.unusedVariables false
namespace Go.Proofs.YtgkdnnklcbacmaaDoor.RefWords
open Go.RowKit SplitP PlainP WordsP

theorem infoStr : (Tryd.prog.info? 9).map (fun i => (i.zero, i.size, i.bytes)) = some (some (.string ⟨#[]⟩), 1, 16) := by kernel_rfl

set_option maxHeartbeats 1000000 in
theorem call_words (s : ByteArray) (w : World) (hm : s.size ≤ 9223372036854775806) :
    Calls Tryd.prog 7 #[.string s] w fun e w' => ∃ v, e = .returned (.tuple #[v, .int .i64 (words s).2]) ∧ w'.ownsRow w.heap.size 9 1 v (words s).1.length ((words s).1.map strV) ∧ Below w.heap.size w w' := by
  obtain ⟨i0, hi, hz0, hz1, hz2⟩ := info_parts infoStr
  by_cases hlong : 4096 < s.size
  · have hw : words s = ([], 6) := by unfold words; rw [if_pos hlong]
    rw [hw]
    have t0 : (4096 : Int) < (s.size : Int) := by omega
    clear hw hlong
    go_enter Tryd.func7, Tryd.ntmps7
    go_wp2
    go_ret2
    exact ⟨_, rfl, World.ownsRow_nil _ _ _ _, Below.refl _ _⟩
  have hs : s.size ≤ 4096 := by omega
  have t0 : ¬ (4096 : Int) < (s.size : Int) := by omega
  clear hlong
  go_enter Tryd.func7, Tryd.ntmps7
  go_wp2
  go_loopw [4, 5, 6, 7, 8] (fun v f i _ _ wr => ∃ (k from' : Nat) (pre : List ByteArray) (ws : List (List UInt8)), k ≤ s.size + 1 ∧ from' ≤ k ∧ (k ≤ s.size ∨ from' = k) ∧ i = .int .i64 k ∧ f = .int .i64 from' ∧ Hid (all pre = some ws) ∧ pre.length ≤ k ∧ Hid (if from' ≤ s.size then parts s = pre ++ rest s from' else parts s = pre) ∧ Hid (NoB (s.data.toList.drop from') (k - from')) ∧ wr.ownsRow w.heap.size 9 1 v ws.length (ws.map strV) ∧ Below w.heap.size w wr) (fun _ _ i _ _ _ => s.size + 1 - (intOf i).toNat)
  case atStart => exact ⟨0, 0, [], [], by omega, by omega, by omega, rfl, rfl, Lib.hid rfl, by simp, Lib.hid (by rw [if_pos (by omega), rest_zero]; rfl), Lib.hid (fun j h => by omega), World.ownsRow_nil _ _ _ _, Below.refl _ _⟩
  case round =>
    obtain ⟨k, f, pre, ws, hk, hfk, hor, rfl, rfl, hall, hpl, hparts, hno, hrow, hb⟩ := hrel
    have hsz := hb.size
    have e0 : (0 : Int) ≤ (k : Int) := Int.natCast_nonneg _
    have e2 : (0 : Int) ≤ (f : Int) := Int.natCast_nonneg _
    have e3 : (f : Int) ≤ (k : Int) := by omega
    by_cases hle : k ≤ s.size
    · have e1 : (k : Int) ≤ (s.size : Int) := by omega
      have l1 : decide ((k : Int) ≤ (s.size : Int)) = true := by simpa using hle
      by_cases hmid : k < s.size ∧ s.data.toList[k]? ≠ some 32
      · obtain ⟨hlt, hne⟩ := hmid
        have hat := Lb.getElem?_bytes s k hlt
        have t1 : decide ((k : Int) < (s.size : Int)) = true := by simpa using hlt
        have e4 : (k : Int) < (s.size : Int) := by omega
        have t2 : ((s[k].toNat : Int) != 32) = true := by
          rw [bne_iff_ne]; intro h
          have h32 : s[k] = 32 := UInt8.toNat_inj.1 (by have : s[k].toNat = 32 := by omega
                                                        rw [this]; rfl)
          exact hne (by rw [hat, h32])
        have hnew : NoB (s.data.toList.drop f) (k + 1 - f) := by
          intro j hj
          by_cases e : j = k - f
          · subst e; rw [List.getElem?_drop, show f + (k - f) = k from by omega]; exact hne
          · exact hno.out j (by omega)
        have Hnew := Lib.hid hnew
        clear hat hnew hne
        go_wp2_with fail
        go_roundw
        case rel => exact ⟨k + 1, f, pre, ws, by omega, by omega, by omega, by go_num, rfl, hall, by omega, hparts, Hnew, hrow, hb⟩
        case measure => simp [intOf]; omega
      · have hstep : parts s = (pre ++ [s.extract f k]) ++ (if k < s.size then rest s (k + 1) else []) := by
          have hp := hparts.out
          rw [if_pos (by omega)] at hp
          rw [hp]
          by_cases hlt : k < s.size
          · have h32 : s.data.toList[k]? = some 32 := by
              rcases Classical.em (s.data.toList[k]? = some 32) with h | h
              · exact h
              · exact absurd ⟨hlt, h⟩ hmid
            rw [if_pos hlt, rest_cut s f k hfk h32 hno.out]; simp
          · obtain rfl : k = s.size := by omega
            rw [if_neg hlt, rest_end s f hno.out]; simp
        have Hstep := Lib.hid hstep
        have hx : (s.extract f k).size ≤ 1073741824 := by simp; omega
        have hws := all_length hall.out
        have tt : (decide ((k : Int) < (s.size : Int)) = false) ∨ (∃ h : k < s.size, decide ((k : Int) < (s.size : Int)) = true ∧ ((s[k].toNat : Int) != 32) = false) := by
          by_cases hlt : k < s.size
          · refine .inr ⟨hlt, by simpa using hlt, ?_⟩
            have h32 : s.data.toList[k]? = some 32 := by
              rcases Classical.em (s.data.toList[k]? = some 32) with h | h
              · exact h
              · exact absurd ⟨hlt, h⟩ hmid
            rw [Lb.getElem?_bytes s k hlt] at h32
            rw [Option.some.inj h32]; rfl
          · exact .inl (by simpa using hlt)
        have hnext : (if k + 1 ≤ s.size then parts s = (pre ++ [s.extract f k]) ++ rest s (k + 1) else parts s = (pre ++ [s.extract f k])) := by
          split
          · rw [hstep, if_pos (by omega)]
          · rw [hstep, if_neg (by omega)]; simp
        have Hnext := Lib.hid hnext
        have Hz : Hid (NoB (s.data.toList.drop (k + 1)) (k + 1 - (k + 1))) := Lib.hid (fun j h => by omega)
        clear hstep hmid hnext
        cases hwd : word (s.extract f k).data.toList with
        | none =>
          have hbad : words s = ([], 251) := by
            unfold words
            rw [if_neg (by omega), all_pre_none (pre := pre ++ [s.extract f k]) (by rw [all_snoc, hall.out, hwd]) (by rw [Hstep.out]; exact List.prefix_append _ _)]
          have Hbad := Lib.hid hbad
          have Hwd := Lib.hid hwd
          clear hbad hwd
          have ttn : (decide (k < s.size) = false) ∨ (∃ h : k < s.size, decide ((k : Int) < (s.size : Int)) = true ∧ ((s[k].toNat : Int) != 32) = false) := tt.imp (fun h => by simp at h ⊢; omega) id
          clear tt
          rcases ttn with t1 | ⟨hlt, t1, t2⟩
          all_goals
            go_wp2_with fail
            refine (RefPlain.plain _ _ hx).mono ?_
            rintro e w1 ⟨rfl, hh1⟩
            rw [Hwd.out, show RefPlain.res none = .tuple #[.string ⟨#[]⟩, .bool false] from rfl]
            go_wp2_with fail
            go_ret2
            exact ⟨_, by rw [Hbad.out]; rfl, by rw [Hbad.out]; exact World.ownsRow_nil _ _ _ _, hb.trans (hh1.mono hsz)⟩
        | some a =>
          have hok : all (pre ++ [s.extract f k]) = some (ws ++ [a]) := by rw [all_snoc, hall.out, hwd]
          have Hok := Lib.hid hok
          have Hwd := Lib.hid hwd
          clear hok hwd
          have ttn : (decide (k < s.size) = false) ∨ (∃ h : k < s.size, decide ((k : Int) < (s.size : Int)) = true ∧ ((s[k].toNat : Int) != 32) = false) := tt.imp (fun h => by simp at h ⊢; omega) id
          clear tt
          rcases ttn with t1 | ⟨hlt, t1, t2⟩
          all_goals
            go_wp2_with fail
            refine (RefPlain.plain _ _ hx).mono ?_
            rintro e w1 ⟨rfl, hh1⟩
            rw [Hwd.out, show RefPlain.res (some a) = .tuple #[.string ⟨a.toArray⟩, .bool true] from rfl]
            have row1 := Lb.row_below hrow hh1
            have hsx := hh1.size
            have hb1 := hb.trans (hh1.mono hsz)
            go_wp2_with (at_builtin; refine wpList_append_own _ rfl _ _ 23 rfl w.heap.size 9 i0 (.string ⟨#[]⟩) 1 16 Tryd.underlying23 hi hz0 hz1 hz2 rfl (by decide) _ _ _ rfl (row1.alloc _) ⟨w1.heap.size, 0, none⟩ 1 1 [.string ⟨a.toArray⟩] rfl rfl (cell_one_new _ _ _) (by simp [Value.oneCell']) (by unfold maxLen; omega) (by omega) (by simp; omega) ?_; intro v' w2 hown' hgrow' _)
            go_roundw
            case rel =>
              refine ⟨k + 1, k + 1, pre ++ [s.extract f k], ws ++ [a], by omega, by omega, by omega, by go_num, by go_num, Hok, by simp; omega, Hnext, Hz, ?_, (hb1.alloc (by omega) _).grown hgrow' (by simp; omega) (fun j hj => (row1.lt j hj).1)⟩
              rw [List.length_append, List.map_append]
              exact hown'
            case measure => simp [intOf]; omega
    · have l1 : decide ((k : Int) ≤ (s.size : Int)) = false := by simp; omega
      have l2 : (s.size : Int) < (k : Int) := by omega
      have hfin : words s = (ws, 0) := by
        have hp := hparts.out
        have hp' : parts s = pre := by rw [if_neg (by omega)] at hp; exact hp
        unfold words
        rw [if_neg (by omega), hp', hall.out]
      have Hfin := Lib.hid hfin
      clear hfin
      go_wp2
      go_ret2
      exact ⟨_, by rw [Hfin.out]; rfl, by rw [Hfin.out]; exact hrow, hb⟩
end Go.Proofs.YtgkdnnklcbacmaaDoor.RefWords
