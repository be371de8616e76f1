/-
  The chapter's fixed question of the program: a tree added is there, and another that refers to it.
-/
import Derived.Test.YtmmmghpimdfleaaGreatDoorAwkP
import Derived.Test.YtmmmghpimdfleaaGreatDoorStock
set_option linter.unusedVariables false
set_option linter.unusedSimpArgs false
namespace Go.Proofs.YtmmmghpimdfleaaGreatDoor.St
open Go.RowKit Mem Tr
open Go.Proofs.YtmmmghpimdfleaaGreatDoor.Own

set_option maxRecDepth 20000 in
theorem leafC (t : ByteArray) (w : World) : Calls Tryz.prog 64 #[.string t] w fun e w' => e = .returned (Sum.nodeV (leafT t) (.slice none 0 0)) ∧ Below w.heap.size w w' := by
  go_enter Tryz.func64, Tryz.ntmps64
  go_wp2_with fail
  have hx := Bx.new w #[.int .i64 1, .bool false, .string t, .slice none 0 0] 26
  have hlv := run_loadVar_mid (P := Tryz.prog) _ w.heap.size 0 26 [.int .i64 1, .bool false, .string t, .slice none 0 0] _ (by have := hx.range; simpa using this) Tryz.underlying26 rfl (by kernel_rfl)
  exact bodyPost_ret (v := Sum.nodeV (leafT t) (.slice none 0 0)) (results_cell Tryz.results64 rfl hlv) rfl ⟨rfl, (Below.refl _ w).alloc (Nat.le_refl _) _⟩

theorem good_one (rc st : Nat → BitVec 32) : Sto.Good rc st [rp rc st] := by
  have h := Sto.good_ins (r := rp rc st) (rs := []) (rc := rc) (st := st) ⟨List.Pairwise.nil, by simp, by simp, by simp⟩ (by
    unfold Rec.bulk
    rw [show (rp rc st).path.size = 46 + 1 from makeS_size rc st _ _ _]
    show 46 + 1 + (leafT ⟨#[120]⟩).bulk + bulks [] ≤ _
    decide)
  unfold Sto.insS at h
  rw [if_pos (ins_p rc st)] at h
  exact h
theorem strs_one (w : World) (p : ByteArray) : Strs (fun b => b = w.heap.size) (w.alloc (.cells #[.string p] 9)) (.slice (some ⟨w.heap.size, 0, none⟩) 1 1) [p] :=
  ⟨some ⟨w.heap.size, 0, none⟩, 1, rfl, Nat.le_refl _, by unfold maxLen; omega, .inr ⟨w.heap.size, 0, rfl, rfl, fun j hj => by
    obtain rfl : j = 0 := by simpa using hj
    exact (Bx.new w #[.string p] 9).cell 0⟩⟩

set_option maxRecDepth 20000 in
set_option maxHeartbeats 4000000 in
theorem awakeC (rc st : Nat → BitVec 32) (w : World) (hg : Sum.Gl rc st w) : Calls Tryz.prog 18 #[] w fun e w' => e = .returned (.bool true) ∧ Below w.heap.size w w' := by
  have HG := Lib.hid hg
  clear hg
  go_enter Tryz.func18, Tryz.ntmps18
  go_wp2_with fail
  refine (newC w).mono ?_
  rintro e w1 ⟨M, F, s, rfl, h1, hMF, b1⟩
  have H1 := Lib.hid h1
  have HMF := Lib.hid hMF
  clear h1 hMF
  go_wp2_with fail
  refine (leafC _ w1).mono ?_
  rintro e w2 ⟨rfl, b2⟩
  have B2 := b1.trans (b2.mono b1.size)
  unfold Sum.nodeV
  go_wp2_with fail
  refine (addC rc st M F (fun _ => False) (fun _ => False) s [] ⟨#[97]⟩ (leafT ⟨#[120]⟩) [] (.slice none 0 0) (.slice none 0 0) w2 (H1.out.below b2) (HG.out.below B2) ?k1 ?k2 (fun _ h => h.elim) (fun _ h => h.elim) ?k3 ?k4 ?k5 ?k6 (by simp)).mono ?_
  case k1 => exact ⟨none, 0, rfl, Nat.le_refl _, Nat.zero_le _, .inl rfl⟩
  case k2 => exact ⟨none, 0, rfl, Nat.le_refl _, Nat.zero_le _, .inl rfl⟩
  case k3 => intro n cap h; cases h; rfl
  case k4 => exact ⟨List.Pairwise.nil, by simp, by simp, by simp⟩
  case k5 => decide
  case k6 => decide
  obtain ⟨x1, x2, x3⟩ := add_p rc st
  rw [x1, x2, x3]
  rintro e w3 ⟨rfl, M2, F2, h3, k3, m3, f3⟩
  obtain ⟨p, hp⟩ : ∃ p, (rp rc st).path = p := ⟨_, rfl⟩
  rw [hp]
  have HP := Lib.hid hp
  have H3 := Lib.hid h3
  have B3 := B2.trans (k3.below B2.size (fun i hi hm => by have := HMF.out i (.inl hm); omega))
  have HMF2 := Lib.hid (show ∀ b, M2 b ∨ F2 b → w.heap.size ≤ b from fun b hb => by
    have hz := B2.size
    rcases hb with h | h
    · rcases m3 b h with h | h
      · exact HMF.out b (.inl h)
      · omega
    · rcases f3 b h with h | h
      · exact HMF.out b (.inr h)
      · omega)
  clear h3 k3 m3 f3 hp x1 x2 x3
  go_wp2_with fail
  refine (leafC _ w3).mono ?_
  rintro e w4 ⟨rfl, b4⟩
  have B4 := B3.trans (b4.mono B3.size)
  unfold Sum.nodeV
  go_wp2_with fail
  refine calls_named fun w5 hw5 => ?_
  have hst := strs_one w4 p
  rw [hw5] at hst
  obtain ⟨b5, x5⟩ := alloc_fact hw5
  have HST := Lib.hid hst
  have l5 := x5.lt
  have B5 := B4.trans (b5.mono B4.size)
  clear hw5 x5 hst
  have b35 : Below w3.heap.size w3 w5 := b4.trans (b5.mono b4.size)
  refine (addC rc st M2 F2 (fun _ => False) (fun b => b = w4.heap.size) s [rp rc st] ⟨#[98]⟩ (leafT ⟨#[121]⟩) [p] (.slice none 0 0) (.slice (some ⟨w4.heap.size, 0, none⟩) 1 1) w5 (H3.out.below b35) (HG.out.below B5) ?q1 HST.out (fun _ h => h.elim) (fun b h => by rw [h]; exact l5) ?q3 (good_one rc st) ?q5 ?q6 (by simp)).mono ?_
  case q1 => exact ⟨none, 0, rfl, Nat.le_refl _, Nat.zero_le _, .inl rfl⟩
  case q3 => intro n cap h; cases h
  case q5 => decide
  case q6 =>
    unfold bulks bulks
    rw [← HP.out, show (rp rc st).path.size = 46 + 1 from makeS_size rc st _ _ _]
    decide
  obtain ⟨y1, y2, y3⟩ := add_q rc st
  rw [HP.out] at y1 y2 y3
  rw [y1, y2, y3]
  rintro e w6 ⟨rfl, M3, F3, h6, k6, m6, f6⟩
  obtain ⟨q, hq⟩ : ∃ q, (rq rc st).path = q := ⟨_, rfl⟩
  rw [hq]
  have HQ := Lib.hid hq
  have H6 := Lib.hid h6
  have B6 := B5.trans (k6.below B5.size (fun i hi hm => by have := HMF2.out i (.inl hm); omega))
  clear h6 k6 m6 f6 hq y1 y2 y3 b35
  go_wp2_with fail
  refine calls_named fun w7 hw7 => ?_
  have hst7 := strs_one w6 q
  rw [hw7] at hst7
  obtain ⟨b7, x7⟩ := alloc_fact hw7
  have HST7 := Lib.hid hst7
  have B7 := B6.trans (b7.mono B6.size)
  clear hw7 x7 hst7
  have hsz : ∀ x, Rch (two rc st) [q] x → x.size ≤ maxLen := fun x hx => by
    rw [← HQ.out] at hx
    rcases (rch_two rc st).1 hx with rfl | rfl
    · rw [show (rp rc st).path.size = 46 + 1 from makeS_size rc st _ _ _]; unfold maxLen; omega
    · rw [show (rq rc st).path.size = 46 + 1 from makeS_size rc st _ _ _]; unfold maxLen; omega
  have hwt : [q].length + wt (fun _ => none) (two rc st) ≤ 1099511627776 := by
    show 1 + wt0 (Sp.put Rec.path [rp rc st] (rq rc st)) ≤ _
    rw [wt0_put]
    show 1 + (0 + 0 + 1) ≤ _
    decide
  refine (orderC M3 F3 (fun b => b = w6.heap.size) s (two rc st) _ [q] w7 (H6.out.below b7) (by rw [two_len]; decide) HST7.out hwt hsz).mono ?_
  rintro e w8 ⟨b8, ⟨x, hx1, hx2, _⟩ | ⟨v, gs, out, rfl, hrow, hnd, hin, hrch, hord⟩⟩
  · rw [← HQ.out] at hx1
    rw [has_two rc st ((rch_two rc st).1 hx1)] at hx2
    cases hx2
  rw [← HQ.out] at hrch
  obtain rfl := order_two rc st hnd hin hrch hord
  rw [HP.out, HQ.out] at hrow
  unfold SRow at hrow
  obtain ⟨g, cap, rfl⟩ := ownsRow_succ hrow
  have c0 : w8.cell? ⟨g, 0, none⟩ = some (.string p) := by
    have := hrow.cells (g := g) rfl 0 (.string p) rfl
    rwa [Addr.add_lit] at this
  have c1 : w8.cell? ⟨g, 1, none⟩ = some (.string q) := by
    have := hrow.cells (g := g) rfl 1 (.string q) rfl
    rwa [Addr.add_lit] at this
  have B8 := B7.trans (b8.mono B7.size)
  have t1 : (p.toList == p.toList) = true := by simp
  have t2 : (q.toList == q.toList) = true := by simp
  have HC := Lib.hid (cutNoC M3 F3 s (two rc st) p w8 (H6.out.below (b7.trans (b8.mono b7.size))) (by rw [two_len]; decide) (.inr (by rw [← HP.out]; exact refd_two rc st)))
  have HH := Lib.hid (has_two rc st (.inl HP.out.symm))
  clear hrow hnd hin hrch hord hsz hwt
  go_wp2_with fail
  refine HC.out.mono ?_
  rintro e w9 ⟨b9, rfl⟩
  rw [HH.out, if_pos rfl]
  go_wp2_with fail
  go_ret
  exact ⟨rfl, B8.trans (b9.mono B8.size)⟩
end Go.Proofs.YtmmmghpimdfleaaGreatDoor.St
