/-
  strings.SplitSeq at a blank: its iterator gives the pieces.
-/
import Derived.Test.YtgkdnnklcbacmaaDoorProg
import Derived.Test.YtgkdnnklcbacmaaDoorLib
import Derived.Test.YtgkdnnklcbacmaaDoorSplitP
import Derived.Test.YtgkdnnklcbacmaaDoorRange
import Derived.Shelf.Abstract
import Derived.Shelf.RegionOpen
import Derived.WalkKit
import Derived.OwnWalkIn
import Derived.TacticsInMore
import Derived.LoopNIn
import Derived.LoopIn
import Derived.WalkLawsBesides
import Derived.WalkSpells
import Derived.Lib.Hide
import Derived.KernelRfl
set_option linter.unusedVariables false
namespace Go.Proofs.YtgkdnnklcbacmaaDoor.Split
open Go.RowKit Go.Shelf SplitP Rng
attribute [local go_sem] Oper.semAt_some

theorem slite_index (s : ByteArray) (w : World) :
    Calls Tryd.prog 29 #[.string s, .string ⟨#[32]⟩] w fun e w' => e = .returned (.int .i64 (Idx.first s.data.toList 32)) ∧ w = w' := by
  by_cases h : s.data.toList = [32]
  · have t : ([32] == s.toList) = true := by rw [Lib.toList_data, h]; rfl
    have hf : Idx.first s.data.toList 32 = 0 := by rw [h]; rfl
    have Hf := Lib.hid hf
    clear h hf
    go_enter Tryd.func29, Tryd.ntmps29
    go_wp2_with fail
    go_ret
    exact ⟨by rw [Hf.out]; rfl, rfl⟩
  · have t : ([32] == s.toList) = false := by rw [Lib.toList_data]; simpa using fun e => h e.symm
    clear h
    go_enter Tryd.func29, Tryd.ntmps29
    go_wp2_with fail
    refine (Idx.stringslite_IndexByte _ _ _).mono ?_
    rintro e w1 ⟨rfl, rfl⟩
    rw [Idx.firstIdx_eq]
    go_wp2_with fail
    go_ret
    exact ⟨rfl, rfl⟩

theorem index (s : ByteArray) (w : World) :
    Calls Tryd.prog 26 #[.string s, .string ⟨#[32]⟩] w fun e w' => e = .returned (.int .i64 (Idx.first s.data.toList 32)) ∧ w = w' := by
  go_enter Tryd.func26, Tryd.ntmps26
  go_wp2_with fail
  refine (slite_index _ _).mono ?_
  rintro e w1 ⟨rfl, rfl⟩
  go_wp2_with fail
  go_ret
  exact ⟨rfl, rfl⟩

/-- strings.SplitSeq(s, " "): a function over three new variables. -/
theorem splitSeq (s : ByteArray) (w : World) :
    Calls Tryd.prog 14 #[.string s, .string ⟨#[32]⟩] w fun e w' =>
      e = .returned (.func (.func 24) #[] #[.pointer (some ⟨w.heap.size + 1, 0, none⟩), .pointer (some ⟨w.heap.size, 0, none⟩), .pointer (some ⟨w.heap.size + 2, 0, none⟩)]) ∧
      ((w.alloc (.cells #[.string s] 9)).alloc (.cells #[.string ⟨#[32]⟩] 9)).alloc (.cells #[.int .i64 0] 3) = w' := by
  have hmf : ∀ (fn : Fn) (first cap : Array Value) (w : World), (Instr.makeFunc fn first cap).run Tryd.prog w = .ok (.func fn first cap) w := fun _ _ _ _ => rfl
  go_enter Tryd.func14, Tryd.ntmps14
  go_wp2
  go_ret
  exact ⟨rfl, rfl⟩

/-- what a round must leave as it was: the three variables -/
def Three (bs : Nat) (A B : World) : Prop := ∀ j, bs ≤ j → j < bs + 3 → B.heap[j]? = A.heap[j]?
def Turns (bs : Nat) (A B : World) : Prop := A.grownBy B (some bs)

def left (bs : Nat) (w : World) : Nat := match w.cell? ⟨bs, 0, none⟩ with | some (.string c) => c.size + 1 | _ => 0

set_option maxRecDepth 100000 in
set_option maxHeartbeats 2000000 in
theorem gives (n : Nat) (hn : 1 ≤ n) (bs : Nat) (s : ByteArray) (w : World) (hs : s.size ≤ 1073741824) (hlt : bs + 3 ≤ w.heap.size) (h0 : Boxed w bs 9 (.string s)) (h1 : Boxed w (bs + 1) 9 (.string ⟨#[32]⟩)) (h2 : Boxed w (bs + 2) 3 (.int .i64 0)) :
    Gives n Tryd.prog 24 #[.pointer (some ⟨bs + 1, 0, none⟩), .pointer (some ⟨bs, 0, none⟩), .pointer (some ⟨bs + 2, 0, none⟩)] (fun x : ByteArray => #[.string x]) (Turns bs) (Three bs) (parts s) w := by
  intro l J Jx W hW hJ hJx hY hJ0
  have g0 : Boxed W bs 9 (.string s) := (hW.block bs (by omega)).trans h0
  have g1 : Boxed W (bs + 1) 9 (.string ⟨#[32]⟩) := (hW.block (bs + 1) (by omega)).trans h1
  have g2 : Boxed W (bs + 2) 3 (.int .i64 0) := (hW.block (bs + 2) (by omega)).trans h2
  have c1 := g1.cell
  clear h0 h1 h2
  refine callsIn_of_wp Tryd.func24 rfl trivial ?_ rfl
  simp only [Tryd.ntmps24, List.size_toArray, List.length_cons, List.length_nil, Nat.reduceAdd, Nat.reduceSub, Array.replicate_succ, Array.replicate_zero, List.push_toArray, List.append_toArray, List.nil_append, List.cons_append]
  gi_wp2
  gi_loopw [7, 8] (fun _ _ wr => ∃ (pre : List ByteArray) (cur : ByteArray), cur.size ≤ 1073741824 ∧ Boxed wr bs 9 (.string cur) ∧ Boxed wr (bs + 1) 9 (.string ⟨#[32]⟩) ∧ Boxed wr (bs + 2) 3 (.int .i64 0) ∧ Hid (parts s = pre ++ parts cur) ∧ J pre wr) (fun _ _ wr => left bs wr)
  case atStart => exact ⟨[], s, hs, g0, g1, g2, Lib.hid rfl, hJ0⟩
  case round =>
    obtain ⟨pre, cur, hcs, b0, b1, b2, hp, hj⟩ := hrel
    have d0 := b0.cell
    have d1 := b1.cell
    have d2 := b2.cell
    have hfl := Idx.first_lt cur.data.toList 32
    rw [← Lib.size_eq] at hfl
    by_cases hneg : Idx.first cur.data.toList 32 < 0
    · have hm : parts s = pre ++ [cur] := by rw [hp.out, parts_none hneg]
      obtain ⟨fn, tmps, assign, body, hy, hR⟩ := hY pre cur wr hj (by rw [hm]; exact List.prefix_rfl)
      have Hm := Lib.hid hm
      clear hm hfl
      gi_wp2_with fail
      refine ⟨trivial, (callsIn_wide.2 (index _ _)).mono ?_⟩
      rintro e w1 ⟨rfl, rfl⟩
      gi_wp2_with fail
      refine hR.mono ?_
      rintro e W3 (⟨rfl, hJ3, hk3⟩ | ⟨rfl, hJx3⟩)
      · gi_wp2_with fail
        go_end0
        exact ⟨⟨_, rfl⟩, .inl (by rw [Hm.out]; exact hJ3)⟩
      · gi_wp2_with fail
        go_end0
        exact ⟨⟨_, rfl⟩, .inr ⟨pre ++ [cur], by rw [Hm.out]; exact List.prefix_rfl, hJx3⟩⟩
    · obtain ⟨i, hi⟩ : ∃ i : Nat, Idx.first cur.data.toList 32 = i := ⟨(Idx.first cur.data.toList 32).toNat, by omega⟩
      have hlt : i < cur.size := by omega
      have i0 : (0 : Int) ≤ (i : Int) := Int.natCast_nonneg _
      have i1 : (i : Int) < (cur.size : Int) := by omega
      have hm : parts s = (pre ++ [cur.extract 0 i]) ++ parts (cur.extract (i + 1) cur.size) := by
        rw [hp.out]
        unfold parts
        rw [pieces_some _ i hi, List.map_cons, Lib.extract_data]
        have e1 : SplitP.bytes (cur.data.toList.take i) = cur.extract 0 i := by
          rw [Lib.extract_eq]; simp [SplitP.bytes]
        have e2 : (cur.data.toList.drop (i + 1)).take (cur.size - (i + 1)) = cur.data.toList.drop (i + 1) := by
          apply List.take_of_length_le; simp
        rw [e1, e2]
        simp
      obtain ⟨fn, tmps, assign, body, hy, hR⟩ := hY pre (cur.extract 0 i) wr hj (by rw [hm]; exact List.prefix_append _ _)
      have Hi := Lib.hid hi
      have Hm := Lib.hid hm
      clear hneg hfl hi hm
      gi_wp2_with fail
      refine ⟨trivial, (callsIn_wide.2 (index _ _)).mono ?_⟩
      rintro e w1 ⟨rfl, rfl⟩
      rw [Hi.out]
      gi_wp2_with fail
      refine hR.mono ?_
      rintro e W3 (⟨rfl, hJ3, hk3⟩ | ⟨rfl, hJx3⟩)
      · have b0' : Boxed W3 bs 9 (.string cur) := (hk3 bs (by omega) (by omega)).trans b0
        have b1' : Boxed W3 (bs + 1) 9 (.string ⟨#[32]⟩) := (hk3 _ (by omega) (by omega)).trans b1
        have b2' : Boxed W3 (bs + 2) 3 (.int .i64 0) := (hk3 _ (by omega) (by omega)).trans b2
        have k0 := b0'.cell
        have f0 := b0'.frozen
        have k1 := b1'.cell
        gi_wp2_with fail
        have bb := b0'.set (.string (cur.extract (i + 1) cur.size))
        have hsz : (cur.extract (i + 1) cur.size).size = cur.size - (i + 1) := by simp
        go_roundw
        case rel =>
          exact ⟨pre ++ [cur.extract 0 i], cur.extract (i + 1) cur.size, by omega, bb, b1'.kept (grownBy_setCell' W3 bs _) (by simp), b2'.kept (grownBy_setCell' W3 bs _) (by simp), Hm, hJ _ _ _ hJ3 (grownBy_setCell' W3 bs _)⟩
        case measure =>
          unfold left
          rw [d0, bb.cell]
          simp only
          omega
      · gi_wp2_with fail
        refine bodyPost_ret (results_none rfl _ _ _) rfl ?_
        exact ⟨⟨_, rfl⟩, .inr ⟨pre ++ [cur.extract 0 i], by rw [Hm.out]; exact List.prefix_append _ _, hJx3⟩⟩
end Go.Proofs.YtgkdnnklcbacmaaDoor.Split
