/-
  depotlaw17.spoil: every entry of a tree is written over.
-/
import Derived.Test.YtmmmghpimdfleaaGreatDoorSep
import Derived.Test.YtmmmghpimdfleaaGreatDoorGrpM
set_option linter.unusedVariables false
set_option linter.unusedSimpArgs false
namespace Go.Proofs.YtmmmghpimdfleaaGreatDoor.Spoil
open Go.RowKit Mem Tr
open Go.Proofs.YtmmmghpimdfleaaGreatDoor.Own

theorem infoEnt' : (Tryz.prog.info? 116).map (·.size) = some 5 := by kernel_rfl
theorem there5 {w : World} {b o : Nat} {v0 v1 v2 v3 v4 : Value} (h : Wr w b) (h0 : w.cell? ⟨b, o, none⟩ = some v0) (h1 : w.cell? ⟨b, o + 1, none⟩ = some v1) (h2 : w.cell? ⟨b, o + 2, none⟩ = some v2) (h3 : w.cell? ⟨b, o + 3, none⟩ = some v3) (h4 : w.cell? ⟨b, o + 4, none⟩ = some v4) : w.there b o 5 := by
  intro j hj
  refine ⟨?_, h.2 _⟩
  have : j = 0 ∨ j = 1 ∨ j = 2 ∨ j = 3 ∨ j = 4 := by omega
  rcases this with rfl | rfl | rfl | rfl | rfl
  · rw [Nat.add_zero, h0]; rfl
  · rw [h1]; rfl
  · rw [h2]; rfl
  · rw [h3]; rfl
  · rw [h4]; rfl
/-- "spoilt" -/
def spoilt : ByteArray := ⟨#[115, 112, 111, 105, 108, 116]⟩
def leaf5 : List Value := [.string spoilt, .int .i64 9, .bool false, .string ⟨#[]⟩, .slice none 0 0]

set_option maxHeartbeats 4000000 in
set_option maxRecDepth 20000 in
theorem spoilN : ∀ (N : Nat) (k : Int) (ex : Bool) (t : ByteArray) (ks : Tr.Kids) (kv : Value) (S : Nat → Prop) (w : World), ks.bulk < N → ks.bulk ≤ 4194304 → SepK S w kv ks →
    Calls Tryz.prog 57 #[.agg #[.int .i64 k, .bool ex, .string t, kv]] w fun e w' => e = .returned (.tuple #[]) ∧ Kp S w w' := by
  intro N
  induction N with
  | zero => intro k ex t ks kv S w h; omega
  | succ N ih =>
    intro k ex t ks kv S w hN hB hk
    obtain ⟨ao, cap, rfl, hcl, hcm, hel⟩ := hk
    have hlen := ks.len_le
    obtain ⟨n, hn⟩ : ∃ n, ks.len = n := ⟨_, rfl⟩
    rw [hn] at hcl hlen ⊢
    have Hn := Lib.hid hn
    have Hel := Lib.hid hel
    have HN := Lib.hid hN
    have HB := Lib.hid hB
    have hn8 : n ≤ 4194304 := by omega
    clear hn hel hcl hcm hlen hN hB
    go_enter Tryz.func57, Tryz.ntmps57
    go_wp2_with fail
    obtain ⟨w1, hw1⟩ : ∃ W, w.alloc (.cells #[.int .i64 k, .bool ex, .string t, .slice ao n cap] 26) = W := ⟨_, rfl⟩
    rw [hw1]
    obtain ⟨b1, x1⟩ := alloc_fact hw1
    have X1 := Lib.hid x1
    clear hw1 x1
    go_loopw [2, 6] (fun _ i wr => ∃ j : Nat, j ≤ n ∧ i = .int .i64 j ∧ Kp S w wr ∧ w1.heap.size ≤ wr.heap.size ∧ Hid (Bx wr w.heap.size #[.int .i64 k, .bool ex, .string t, .slice ao n cap] 26) ∧ Hid (j < n → ∃ b off S', ao = some ⟨b, off, none⟩ ∧ b < w.heap.size ∧ S b ∧ Wr wr b ∧ (∀ q, S' q → (S q ∧ q ≠ b) ∧ q < w.heap.size) ∧ SepE wr (ks.drop j) S' b (off + j * 5))) (fun _ i _ => n - (intOf i).toNat)
    case atStart =>
      refine ⟨0, Nat.zero_le _, rfl, Kp.of_below b1, Nat.le_refl _, X1, Lib.hid fun h0 => ?_⟩
      rcases Hel.out with h | ⟨b, off, h1, h2, h3, h4⟩
      · have := Hn.out
        rw [h] at this
        simp [Tr.Kids.len] at this
        omega
      · have h5 := h4.sub (S' := fun q => (S q ∧ q ≠ b) ∧ q < w.heap.size) (fun q hz hq => ⟨hq, hz⟩)
        exact ⟨b, off, _, h1, h3.1, h2, h3.below b1, fun q hq => hq, by rw [Kids.drop_zero, Nat.zero_mul]; exact h5.ag b1.size (fun q hq hl => b1.block q hl) (b1.block b h3.1)⟩
    case round =>
      obtain ⟨j, hj, rfl, kr, zr, xr, her⟩ := hrel
      have a3 : wr.cell? ⟨w.heap.size, 3, none⟩ = some (.slice ao n cap) := xr.out.cell 3
      have e0 : (0 : Int) ≤ (j : Int) := Int.natCast_nonneg _
      by_cases hlt : j < n
      · have e1 : (j : Int) < (n : Int) := by omega
        obtain ⟨b, off, S', rfl, hbl, hSb, hwr, hS', hse⟩ := her.out hlt
        obtain ⟨nm, kd, e, tx, sub, r, hd, hd1⟩ := ks.drop_cons j (by rw [Hn.out]; exact hlt)
        have hbk := ks.bulk_drop j
        rw [hd] at hse hbk
        obtain ⟨f0, f1, f2, f3, S1, S2, s1, s2, dj, ⟨a4, c4, f4, hsl, hsm, hsk⟩, hrest⟩ := hse
        simp only [Tr.Kids.bulk] at hbk
        have HSUB := Lib.hid (show SepK S1 wr (.slice a4 sub.len c4) sub from ⟨a4, c4, rfl, hsl, hsm, hsk⟩)
        have HRE := Lib.hid hrest
        have HD := Lib.hid hd1
        have HWR := Lib.hid hwr
        have HS1 := Lib.hid (show ∀ q, S1 q → (S q ∧ q ≠ b) ∧ q < w.heap.size from fun q hq => hS' q (s1 q hq))
        have HS2 := Lib.hid (show ∀ q, S2 q → (S q ∧ q ≠ b) ∧ q < w.heap.size from fun q hq => hS' q (s2 q hq))
        have HDJ := Lib.hid dj
        have hsb : sub.bulk < N ∧ sub.bulk ≤ 4194304 := by have := HN.out; have := HB.out; omega
        have hbz : b ≠ w.heap.size := by omega
        have HF := Lib.hid (show wr.cell? ⟨b, off + j * 5, none⟩ = some (.string nm) ∧ wr.cell? ⟨b, off + j * 5 + 1, none⟩ = some (.int .i64 kd) ∧ wr.cell? ⟨b, off + j * 5 + 2, none⟩ = some (.bool e) ∧ wr.cell? ⟨b, off + j * 5 + 3, none⟩ = some (.string tx) ∧ wr.cell? ⟨b, off + j * 5 + 4, none⟩ = some (.slice a4 sub.len c4) from ⟨f0, f1, f2, f3, f4⟩)
        clear hrest hd hd1 hwr s1 s2 dj hsl hsm hsk hbk hS' her f0
        go_wp2_with fail
        refine (ih kd e tx sub (.slice a4 sub.len c4) S1 wr hsb.1 hsb.2 HSUB.out).mono ?_
        rintro e9 w2 ⟨rfl, k2⟩
        clear f1 f2 f3 f4 a3
        have x2 := xr.out.kp k2 (fun h => by have := (HS1.out _ h).2; omega)
        have a3 : w2.cell? ⟨w.heap.size, 3, none⟩ = some (.slice (some ⟨b, off, none⟩) n cap) := x2.cell 3
        have hnb : ¬ S1 b := fun h => (HS1.out b h).1.2 rfl
        have wr2 := HWR.out.kp k2 hnb
        have cb : ∀ (i : Nat) (v : Value), wr.cell? ⟨b, i, none⟩ = some v → w2.cell? ⟨b, i, none⟩ = some v := fun i v h => by rw [k2.cell (p := ⟨b, i, none⟩) HWR.out.1 hnb]; exact h
        have ht := there5 wr2 (cb _ _ HF.out.1) (cb _ _ HF.out.2.1) (cb _ _ HF.out.2.2.1) (cb _ _ HF.out.2.2.2.1) (cb _ _ HF.out.2.2.2.2)
        have X2 := Lib.hid x2
        have WR2 := Lib.hid wr2
        have HRE2 := Lib.hid (HRE.out.ag k2.size (Ag.of_kp k2 (fun q _ h2 h1 => HDJ.out q h1 h2)) (k2.block b HWR.out.1 hnb))
        clear x2 wr2 cb
        go_wp2_with (refine wpList_store_mid (by rfl) 116 _ _ (by rfl) b (off + j * 5) leaf5.toArray (by rfl) (by rfl) ?h4 ?h5 ?h6 ?_; rotate_right; refine Mem.named ?_; intro W hW)
        case h4 => exact ht
        case h5 => kernel_rfl
        case h6 => exact all_oneCell_toArray (by intro u hu; simp only [leaf5, List.mem_cons, List.not_mem_nil, or_false] at hu; rcases hu with rfl | rfl | rfl | rfl | rfl <;> rfl)
        have hW2 : w2.setCells b (off + j * 5) leaf5 = W := hW
        have kW : Kp (fun q => q = b) w2 W := by rw [← hW2]; exact kp_setCells (M := fun q => q = b) (fun _ => rfl) _ _ (Kp.refl _ w2)
        have ks2 : Kp S w W := (kr.trans k2 (M'' := S) (fun i _ h => h) (fun i _ h => (HS1.out i h).1.1)).trans kW (M'' := S) (fun i _ h => h) (fun i _ h => h ▸ hSb)
        go_roundw
        case rel =>
          refine ⟨j + 1, by omega, by go_num, ks2, Nat.le_trans zr (Nat.le_trans k2.size kW.size), Lib.hid (X2.out.kp kW (fun h => hbz h.symm)), Lib.hid fun hj2 => ⟨b, off, S2, rfl, hbl, hSb, ⟨Nat.lt_of_lt_of_le WR2.out.1 kW.size, fun i => by rw [← hW2, World.frozen?_setCells]; exact WR2.out.2 i⟩, HS2.out, ?_⟩⟩
          rw [HD.out, show off + (j + 1) * 5 = off + j * 5 + 5 by omega]
          refine HRE2.out.keep kW.size (Ag.of_kp kW (fun q _ hq e => (HS2.out q hq).1.2 e)) (fun i hi => ?_)
          rw [← hW2]
          exact World.cell?_setCells_out _ _ _ _ _ (fun _ _ => .inr (by show off + j * 5 + 5 ≤ i; omega))
        case measure => simp [intOf]; omega
      · obtain rfl : j = n := by omega
        go_wp2_with fail
        go_end0
        exact ⟨rfl, kr⟩
theorem spoilC (S : Nat → Prop) (T : Tree) (kv : Value) (w : World) (hk : SepK S w kv T.kids) (hb : T.bulk ≤ 4194304) :
    Calls Tryz.prog 57 #[Sum.nodeV T kv] w fun e w' => e = .returned (.tuple #[]) ∧ Kp S w w' := by
  obtain ⟨k, ex, t, ks⟩ := T
  exact spoilN _ k ex t ks kv S w (Nat.lt_succ_self _) (by simp only [Tree.bulk] at hb; omega) hk
end Go.Proofs.YtmmmghpimdfleaaGreatDoor.Spoil
