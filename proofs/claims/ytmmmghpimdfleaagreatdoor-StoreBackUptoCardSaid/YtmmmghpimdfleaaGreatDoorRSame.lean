/-
  The document's Same of two records; alike.
-/
import Derived.Test.YtmmmghpimdfleaaGreatDoorR06
import Derived.Test.YtmmmghpimdfleaaGreatDoorGrpP
set_option linter.unusedVariables false
set_option linter.unusedSimpArgs false
namespace Go.Proofs.YtmmmghpimdfleaaGreatDoor.St
open Go.RowKit Mem Tr
open Go.Proofs.YtmmmghpimdfleaaGreatDoor.Own

set_option maxHeartbeats 4000000 in
set_option maxRecDepth 20000 in
theorem rsameC (S S' : Nat → Prop) (a b : Rec) (ca cb : List Value) (w : World) (ha : RecAt S w ca a) (hb : RecAt S' w cb b) (hk : a.bulk ≤ 4194304) :
    Calls Tryz.prog 29 #[.agg ca.toArray, .agg cb.toArray] w fun e w' => e = .returned (.bool (eqR a b)) ∧ Below w.heap.size w w' := by
  have hla := ha.length
  have hlb := hb.length
  obtain ⟨kv, rv, hca, hha, hka, hra⟩ := ha
  obtain ⟨kv', rv', hcb, hhb, hkb, hrb⟩ := hb
  have HKA := Lib.hid hka
  have HRA := Lib.hid hra
  have HKB := Lib.hid hkb
  have HRB := Lib.hid hrb
  have HCA := Lib.hid hca.symm
  have HCB := Lib.hid hcb.symm
  obtain ⟨ao, cap, rfl, _, _, _⟩ := hka
  obtain ⟨ao2, cap2, rfl, _, _, _⟩ := hra
  obtain ⟨ao', cap', rfl, _, _, _⟩ := hkb
  obtain ⟨ao2', cap2', rfl, _, _, _⟩ := hrb
  obtain ⟨q0, q1, q2, q3, q4, q5⟩ := recFields hca.symm hla hha
  obtain ⟨p0, p1, p2, p3, p4, p5⟩ := recFields hcb.symm hlb hhb
  have HQ := Lib.hid (fun w => eqDig a.hash b.hash hha hhb w)
  obtain ⟨RA, hRA⟩ : ∃ RC, Lib.byteCells a.hash = RC := ⟨_, rfl⟩
  obtain ⟨RB', hRB⟩ : ∃ RC, Lib.byteCells b.hash = RC := ⟨_, rfl⟩
  have hRAl : RA.length = 32 := by rw [← hRA, Lib.byteCells_length, hha]
  have hRBl : RB'.length = 32 := by rw [← hRB, Lib.byteCells_length, hhb]
  have HRA' := Lib.hid hRA
  have HRB' := Lib.hid hRB
  rw [hRA, hRB] at HQ
  have hu := Tryz.underlying29
  have hbt : a.tree.bulk ≤ 4194304 := by unfold Rec.bulk at hk; omega
  clear hca hcb hRA hRB
  go_enter Tryz.func29, Tryz.ntmps29
  go_wp2_with fail
  refine calls_named fun w1 hw1 => ?_
  obtain ⟨B1, x1, y1⟩ := alloc_fact2 hw1
  have XA := Lib.hid (show RB w1 w.heap.size a (.slice ao a.tree.kids.len cap) (.slice ao2 a.refs.length cap2) from ⟨by rw [HCA.out]; exact x1, hha⟩)
  have XB := Lib.hid (show RB w1 (w.heap.size + 1) b (.slice ao' b.tree.kids.len cap') (.slice ao2' b.refs.length cap2') from ⟨by rw [HCB.out]; exact y1, hhb⟩)
  clear hw1 x1 y1 q0 q1 q2 q3 q4 q5 p0 p1 p2 p3 p4 p5
  refine (R06.equalC S S' a.tree b.tree _ _ w1 (HKA.out.below B1) (HKB.out.below B1) hbt).mono ?_
  rintro e w2 ⟨rfl, b2⟩
  have B2 := B1.trans (b2.mono B1.size)
  have XA2 := Lib.hid (XA.out.below b2)
  have XB2 := Lib.hid (XB.out.below b2)
  have g5 := XA2.out.c5
  have j5 := XB2.out.c5
  have HE0 := Lib.hid (show eqR a b = (decide (a.path = b.path) && (decide (a.hash = b.hash) && (decide (a.size = b.size) && (Eq.eqT a.tree b.tree && decide (a.refs = b.refs))))) by
    unfold eqR Eq.eqT
    rw [← Bool.decide_and, ← Bool.decide_and, ← Bool.decide_and, ← Bool.decide_and, decide_eq_decide]
    exact rec_eq)
  obtain ⟨T, hT⟩ : ∃ T, Eq.eqT a.tree b.tree = T := ⟨_, rfl⟩
  rw [hT] at HE0 ⊢
  clear hT
  go_wp2_with fail
  refine (Texts.texts w2 _ _ a.refs b.refs (HRA.out.below B2).reads (HRB.out.below B2).reads).mono ?_
  rintro e w3 ⟨rfl, sm⟩
  obtain ⟨R, hR⟩ : ∃ R, decide (a.refs = b.refs) = R := ⟨_, rfl⟩
  rw [hR] at HE0 ⊢
  have B3 : Below w.heap.size w w3 := sm.below B2
  have b3 : Below w2.heap.size w2 w3 := sm.below (Below.refl _ _)
  have XA3 := XA2.out.below b3
  have XB3 := XB2.out.below b3
  have a0 := XA3.c0
  have a38 := XA3.c38
  have c0 := XB3.c0
  have c38 := XB3.c38
  have r1 := XA3.hash
  have r2 := XB3.hash
  rw [HRA'.out] at r1
  rw [HRB'.out] at r2
  have tp : (a.path.toList == b.path.toList) = decide (a.path = b.path) := Eq.bytes_beq
  have hq := fun w => HQ.out w
  have th : (a.hash == b.hash) = decide (a.hash = b.hash) := by rw [Bool.eq_iff_iff]; simp
  have ts : (a.size == b.size) = decide (a.size = b.size) := by rw [Bool.eq_iff_iff]; simp
  rw [th] at hq
  obtain ⟨P, hP⟩ : ∃ P, decide (a.path = b.path) = P := ⟨_, rfl⟩
  obtain ⟨H, hH⟩ : ∃ P, decide (a.hash = b.hash) = P := ⟨_, rfl⟩
  obtain ⟨Z, hZ⟩ : ∃ P, decide (a.size = b.size) = P := ⟨_, rfl⟩
  rw [hP, hH, hZ] at HE0
  rw [hP] at tp
  rw [hH] at hq
  rw [hZ] at ts
  clear hP hH hZ hR g5 j5 th XA3 XB3
  cases P with
  | false =>
    go_wp2_with (first
      | (refine wpList_load_midG (by first | rfl | simp [Region.wanted, yielded]) 29 _ (by rfl) w.heap.size 6 (by rfl) RA _ r1 hu rfl (by rw [hRAl]; kernel_rfl) ?_)
      | (refine wpList_load_midG (by first | rfl | simp [Region.wanted, yielded]) 29 _ (by rfl) (w.heap.size + 1) 6 (by rfl) RB' _ r2 hu rfl (by rw [hRBl]; kernel_rfl) ?_))
    go_ret
    exact ⟨by rw [HE0.out]; rfl, B3⟩
  | true =>
    cases H with
    | false =>
      go_wp2_with (first
        | (refine wpList_load_midG (by first | rfl | simp [Region.wanted, yielded]) 29 _ (by rfl) w.heap.size 6 (by rfl) RA _ r1 hu rfl (by rw [hRAl]; kernel_rfl) ?_)
        | (refine wpList_load_midG (by first | rfl | simp [Region.wanted, yielded]) 29 _ (by rfl) (w.heap.size + 1) 6 (by rfl) RB' _ r2 hu rfl (by rw [hRBl]; kernel_rfl) ?_))
      go_ret
      exact ⟨by rw [HE0.out]; rfl, B3⟩
    | true =>
      cases Z <;> cases T <;> cases R <;>
      (go_wp2_with (first
        | (refine wpList_load_midG (by first | rfl | simp [Region.wanted, yielded]) 29 _ (by rfl) w.heap.size 6 (by rfl) RA _ r1 hu rfl (by rw [hRAl]; kernel_rfl) ?_)
        | (refine wpList_load_midG (by first | rfl | simp [Region.wanted, yielded]) 29 _ (by rfl) (w.heap.size + 1) 6 (by rfl) RB' _ r2 hu rfl (by rw [hRBl]; kernel_rfl) ?_))
       go_ret
       exact ⟨by rw [HE0.out]; rfl, B3⟩)
end Go.Proofs.YtmmmghpimdfleaaGreatDoor.St
