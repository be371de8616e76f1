/-
  View.Refs: a path's references.
-/
import Derived.Test.YtmmmghpimdfleaaGreatDoorGrpQ
set_option linter.unusedVariables false
set_option linter.unusedSimpArgs false
namespace Go.Proofs.YtmmmghpimdfleaaGreatDoor.St
open Go.RowKit Mem Tr
open Go.Proofs.YtmmmghpimdfleaaGreatDoor.Own

theorem row_low3 {w : World} {B B' : Nat} {e : TypeId} {size : Nat} {v : Value} {n : Nat} {xs : List Value} (h : w.ownsRow B e size v n xs) (hB : B' ≤ B) : w.ownsRow B' e size v n xs :=
  ⟨h.1, h.2.imp id fun ⟨g, cap, cur, hv, hb, r⟩ => ⟨g, cap, cur, hv, Nat.le_trans hB hb, r⟩⟩
def PostVR (w : World) (rs : List Rec) (p : ByteArray) (e : Ending) (w' : World) : Prop :=
  Below w.heap.size w w' ∧ match Sp.get Rec.path rs p with
  | none => e = .returned (.tuple #[.slice none 0 0, .int .i64 3])
  | some r => ∃ v, e = .returned (.tuple #[v, .int .i64 0]) ∧ w'.ownsRow w.heap.size 9 1 v r.refs.length (r.refs.map .string)

theorem stash_c5 {w2 W : World} {Z : Array Value} {T : TypeId} {cs : List Value} {v : Value} (hW : (w2.alloc (.cells Z T)).setCells w2.heap.size 0 cs = W) (hl : cs.length = 39) (h5 : cs[5]'(by omega) = v) (hz : Z.size = 39 := by rfl) : W.cell? ⟨w2.heap.size, 5, none⟩ = some v := by
  have := stash_range hW (hz.trans hl.symm) 5 v (by rw [List.getElem?_eq_getElem (by omega), h5])
  simpa using this
set_option maxHeartbeats 2000000 in
set_option maxRecDepth 20000 in
theorem refsC (M F : Nat → Prop) (s : Nat) (rs : List Rec) (p : ByteArray) (w : World) (h : Is M F w s rs) (hn : rs.length ≤ 1073741824) (hbk : ∀ r ∈ rs, r.bulk ≤ 4194304) :
    Calls Tryz.prog 37 #[.pointer (some ⟨s, 0, none⟩), .string p] w (PostVR w rs p) := by
  have hltF : ∀ b, F b → b < w.heap.size := fun b hb => h.lt b (.inr hb)
  obtain ⟨⟨t, b0, ha⟩, ho⟩ := h
  have hC := getC2 M F t rs p w ha (by omega)
  have c0 : w.cell? ⟨s, 0, none⟩ = some (.pointer (some ⟨t, 0, none⟩)) := b0.cell 0
  obtain ⟨B, hB⟩ : ∃ B, Sto.has rs p = B := ⟨_, rfl⟩
  have HB := Lib.hid hB
  have HL := Lib.hid hltF
  unfold PostGet2 at hC
  rw [hB] at hC
  clear ha b0 ho hB hltF
  go_enter Tryz.func37, Tryz.ntmps37
  go_wp2_with fail
  refine hC.mono ?_
  rintro e w1 ⟨cs, hl, hoc, rfl, b1, hrec⟩
  have HREC := Lib.hid hrec
  clear hrec hC c0
  cases B with
  | false =>
    go_wp2_with (refine wpList_store_mid (by rfl) 31 _ _ (by rfl) w1.heap.size 0 cs.toArray (by rfl) (by rfl) ?h4 ?h5 ?h6 ?_; rotate_right; refine Mem.named ?_; intro W hW)
    case h4 => exact (Bx.new w1 Ins.zeroRec.cells 31).there _ (by rw [show cs.toArray.size = 39 by simpa using hl]; rfl)
    case h5 => rw [List.size_toArray, hl]; kernel_rfl
    case h6 => exact all_oneCell_toArray hoc
    have bW := b1.trans ((stash hW).mono b1.size)
    go_ret2
    refine ⟨bW, ?_⟩
    have := HB.out
    unfold Sto.has at this
    cases hg : Sp.get Rec.path rs p with
    | none => rfl
    | some r => rw [hg] at this; cases this
  | true =>
    obtain ⟨r, hr⟩ : ∃ r, Sp.get Rec.path rs p = some r := Option.isSome_iff_exists.1 HB.out
    obtain ⟨kv, rv, hcs, hh, hk, hrr⟩ := HREC.out r hr
    have HCS := Lib.hid hcs
    have HRR := Lib.hid hrr
    have HR := Lib.hid hr
    have HBK := Lib.hid (hbk r (Sp.get_some hr).1)
    obtain ⟨q0, q1, q2, q3, q4, q5⟩ := recFields hcs.symm hl hh
    obtain ⟨ao, cap, rfl, _, _, _⟩ := hrr
    have HQ5 := Lib.hid q5
    clear q0 q1 q2 q3 q4 q5 hcs hr hk hbk
    go_wp2_with (refine wpList_store_mid (by rfl) 31 _ _ (by rfl) w1.heap.size 0 cs.toArray (by rfl) (by rfl) ?h4 ?h5 ?h6 ?_; rotate_right; refine Mem.named ?_; intro W hW; have g5 := stash_c5 hW hl HQ5.out)
    case h4 => exact (Bx.new w1 Ins.zeroRec.cells 31).there _ (by rw [show cs.toArray.size = 39 by simpa using hl]; rfl)
    case h5 => rw [List.size_toArray, hl]; kernel_rfl
    case h6 => exact all_oneCell_toArray hoc
    have bW := stash hW
    have BW := b1.trans (bW.mono b1.size)
    refine (cloneTexts F _ r.refs W (HRR.out.below bW) (by have := length_bulks r.refs; have := HBK.out; unfold Rec.bulk at this; omega)).mono ?_
    rintro e w3 ⟨v', rfl, hown, b3⟩
    have HO := Lib.hid hown
    obtain ⟨a, c, rfl⟩ := Tab.own_len hown
    clear hown hW
    go_wp2_with fail
    go_ret2
    refine ⟨BW.trans (b3.mono BW.size), ?_⟩
    rw [HR.out]
    exact ⟨_, rfl, row_low3 HO.out BW.size⟩
end Go.Proofs.YtmmmghpimdfleaaGreatDoor.St
