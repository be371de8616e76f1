/-
  StoreOffers: the walk of the law (printed by tools/mkoffs.py).
-/
import Derived.Test.YtmmmghpimdfleaaGreatDoorGrpY
import Derived.Test.YtmmmghpimdfleaaGreatDoorGrpW
import Derived.Test.YtmmmghpimdfleaaGreatDoorGrpX
set_option linter.unusedVariables false
set_option linter.unusedSimpArgs false
namespace Go.Proofs.YtmmmghpimdfleaaGreatDoor.storeOffers
open Go.RowKit Mem Tr St
open Go.Proofs.YtmmmghpimdfleaaGreatDoor.Own

section
variable {rc st : Nat → BitVec 32} {rs : List Rec} {r : Rec}
theorem get_ins (hr : Sp.Rising Rec.path rs) (he : Sto.insE rc st rs r = 0) : Sp.get Rec.path (Sto.insS rc st rs r) r.path = some r := by
  have hv := Sto.insE_valid he
  unfold Sto.insS
  rw [if_pos he]
  cases hg : Sp.get Rec.path rs r.path with
  | none =>
    show Sp.get Rec.path (Sp.put Rec.path rs r) r.path = _
    rw [Sp.get_put hr hg, if_pos rfl]
  | some old =>
    show Sp.get Rec.path rs r.path = _
    unfold Sto.insE at he
    rw [if_pos hv.1, hv.2, if_neg (by decide), hg] at he
    have ho : old = r := by
      refine Classical.byContradiction fun h => ?_
      have h2 : (if old = r then (0 : Int) else 8) = 0 := he
      rw [if_neg h] at h2; cases h2
    rw [hg, ho]
theorem has_ins {q : ByteArray} (hr : Sp.Rising Rec.path rs) (h : Sto.has rs q = true) : Sto.has (Sto.insS rc st rs r) q = true := by
  unfold Sto.insS
  split
  · split
    · exact h
    · rename_i hn
      rw [Sto.has_put hr hn, h, Bool.or_true]
  · exact h
theorem ins_again (hr : Sp.Rising Rec.path rs) (he : Sto.insE rc st rs r = 0) : Sto.insE rc st (Sto.insS rc st rs r) r = 0 ∧ Sto.insS rc st (Sto.insS rc st rs r) r = Sto.insS rc st rs r := by
  have hv := Sto.insE_valid he
  have hg := get_ins hr he
  have hl : Sto.lacks (Sto.insS rc st rs r) r = false := by
    unfold Sto.lacks
    rw [List.any_eq_false]
    intro q hq
    rcases Sto.lacks_false hv.2 q hq with e | e
    · simp [e]
    · rw [has_ins hr e]; simp
  have hE : Sto.insE rc st (Sto.insS rc st rs r) r = 0 := by
    unfold Sto.insE
    rw [if_pos hv.1, hl, if_neg (by decide), hg]
    exact if_pos rfl
  refine ⟨hE, ?_⟩
  rw [Sto.insS, if_pos hE, hg]
theorem ins_old (he : Sto.insE rc st rs r = 0) (h : Sto.has rs r.path = true) : Sto.insS rc st rs r = rs := by
  unfold Sto.insS
  rw [if_pos he]
  obtain ⟨o, ho⟩ := Option.isSome_iff_exists.1 h
  rw [ho]
theorem ins_new (he : Sto.insE rc st rs r = 0) (h : Sto.has rs r.path = false) : Sto.insS rc st rs r = Sp.put Rec.path rs r := by
  have hn : Sp.get Rec.path rs r.path = none := by
    unfold Sto.has at h
    cases hg : Sp.get Rec.path rs r.path with
    | none => rfl
    | some o => rw [hg] at h; cases h
  unfold Sto.insS
  rw [if_pos he, hn]
theorem cut_put (h : Sto.has rs r.path = false) : Sp.cut Rec.path (Sp.put Rec.path rs r) r.path = rs := by
  have hn : ∀ x ∈ rs, x.path ≠ r.path := by
    unfold Sto.has at h
    cases hg : Sp.get Rec.path rs r.path with
    | none => exact Sp.get_none hg
    | some o => rw [hg] at h; cases h
  have keep : ∀ l : List Rec, (∀ x ∈ l, x.path ≠ r.path) → l.filter (fun x => decide (x.path ≠ r.path)) = l := fun l hl => by
    rw [List.filter_eq_self]
    intro x hx; simpa using hl x hx
  unfold Sp.cut Sp.put
  rw [List.filter_append, List.filter_cons_of_neg (by simp), keep _ (fun x hx => hn x (List.mem_of_mem_take hx)), keep _ (fun x hx => hn x (List.mem_of_mem_drop hx)), List.take_append_drop]
theorem refd_put (hg : Sto.Good rc st rs) (h : Sto.has rs r.path = false) : refd (Sp.put Rec.path rs r) r.path = [] := by
  unfold refd
  rw [List.map_eq_nil_iff, List.filter_eq_nil_iff]
  intro x hx
  unfold refers
  rcases Sp.mem_put.1 hx with rfl | hx
  · simp
  · rw [Bool.and_eq_true, not_and]
    intro _
    rw [List.any_eq_true]
    rintro ⟨q, hq, he⟩
    have := hg.closed x hx q hq
    rw [of_decide_eq_true he, h] at this
    cases this
theorem cutE_put (hg : Sto.Good rc st rs) (h : Sto.has rs r.path = false) : cutE (Sp.put Rec.path rs r) r.path = 0 ∧ cutS (Sp.put Rec.path rs r) r.path = rs := by
  have hn : Sp.get Rec.path rs r.path = none := by
    unfold Sto.has at h
    cases hg : Sp.get Rec.path rs r.path with
    | none => rfl
    | some o => rw [hg] at h; cases h
  have hE : cutE (Sp.put Rec.path rs r) r.path = 0 := by
    unfold cutE
    rw [Sto.has_put hg.rise hn, decide_eq_true rfl, Bool.true_or, if_pos rfl, if_pos (refd_put hg h)]
  refine ⟨hE, ?_⟩
  unfold cutS
  rw [if_pos hE, cut_put h]
end
/-- Another store is left as it is by what is done to this one. -/
theorem apart_step {M M' M1 F1 : Nat → Prop} {w w' : World} {s1 : Nat} {rs1 : List Rec} (h1 : Is M1 F1 w s1 rs1) (ap : ∀ b, M1 b ∨ F1 b → ¬ M b) (kp : Kp M w w') (hM : ∀ b, M' b → M b ∨ w.heap.size ≤ b) : Is M1 F1 w' s1 rs1 ∧ ∀ b, M1 b ∨ F1 b → ¬ M' b :=
  ⟨h1.kp kp (fun b hb => ap b (.inl hb)) (fun b hb => ap b (.inr hb)), fun b hb hm => by
    rcases hM b hm with h | h
    · exact ap b hb h
    · have := h1.lt b hb; omega⟩

/-- Get where the record is there. -/
theorem getSome {M F : Nat → Prop} {s : Nat} {rs : List Rec} {r : Rec} {p : ByteArray} (w : World) (h : Is M F w s rs) (hn : rs.length ≤ 1073741824) (hbk : ∀ r ∈ rs, r.bulk ≤ 4194304) (hg : Sp.get Rec.path rs p = some r) :
    Calls Tryz.prog 23 #[.pointer (some ⟨s, 0, none⟩), .string p] w fun e w' => ∃ oc : List Value, oc.length = 39 ∧ (∀ v ∈ oc, v.oneCell' = true) ∧ e = .returned (.tuple #[.agg oc.toArray, .int .i64 0]) ∧ Below w.heap.size w w' ∧ RecAt (fun b => w.heap.size ≤ b ∧ b < w'.heap.size) w' oc r := by
  refine (getC M F s rs p w h hn hbk).mono ?_
  rintro e w' ⟨hb, hm⟩
  rw [hg] at hm
  obtain ⟨cs, rfl, hrec⟩ := hm
  exact ⟨cs, hrec.length, Tab.recOne hrec, rfl, hb, hrec.sub fun b hb h => ⟨h, hb⟩⟩

set_option maxHeartbeats 8000000 in
set_option maxRecDepth 20000 in
theorem walk {rc st : Nat → BitVec 32} (w : World) (hg : Sum.Gl rc st w) (v : Value) (l : List Rec) (hr : Op.Recs (fun b => b < w.heap.size) w v l) (r : Rec) (cs : List Value) (hx : RecAt (fun b => b < w.heap.size) w cs r)
    (hcap : ∀ kv n cap, cs = r.cells kv (.slice none n cap) → cap = 0) (hb : Op.bulkR l + r.bulk ≤ 2097152) (hb2 : bulks r.refs ≤ 1048576) :
    Calls Tryz.prog 4 #[v, .agg cs.toArray] w fun e w' => e = .returned (.bool true) ∧ Below w.heap.size w w' := by
  have HR := Lib.hid hr
  have HG := Lib.hid hg
  have hbl : Op.bulkR l ≤ 2097152 := by omega
  have hbr : r.bulk ≤ 2097152 := by omega
  have hK := stk rc st l (by omega)
  obtain ⟨rs, hrs⟩ : ∃ rs, stockF rc st [] l = rs := ⟨_, rfl⟩
  have HRS := Lib.hid hrs
  rw [hrs] at hK
  have hll := bulkR_len l
  have hrl : rs.length ≤ 4194304 := by have := hK.len; omega
  have HGOOD := Lib.hid hK.good
  have HX := Lib.hid hx
  have hcl := hx.length
  have hoc := Tab.recOne hx
  have HP := Lib.hid (show ∃ kv rv, cs = r.cells kv rv ∧ r.hash.length = 32 by obtain ⟨kv, rv, h1, h2, _⟩ := hx; exact ⟨kv, rv, h1, h2⟩)
  have h0 : cs[0]'(by omega) = .string r.path := by
    obtain ⟨kv, rv, h1, h2⟩ := HP.out
    exact (recFields h1.symm hcl h2).1
  have H0 := Lib.hid h0
  clear hr hg hK hll hrs hcap hb hx h0
  go_enter Tryz.func4, Tryz.ntmps4
  go_wp2_with fail
  refine calls_named fun w0 hw0 => ?_
  obtain ⟨b0, x0⟩ := alloc_fact hw0
  have X0 := Lib.hid (show Bx w0 w.heap.size cs.toArray 31 from x0)
  clear hw0 x0
  have lx := X0.out.lt
  refine (stockedC17 rc st v l w0 (HG.out.below b0) ((Op.Recs.below HR.out b0).mono fun b h => Nat.lt_of_lt_of_le h b0.size) (by omega)).mono ?_
  rintro e w1 ⟨M, F, s, rfl, h1, hMF, c1⟩
  rw [HRS.out] at h1
  have H1 := Lib.hid h1
  have HMF := Lib.hid hMF
  clear h1 hMF
  go_wp2_with fail
  refine (awakeC rc st w1 (HG.out.below (b0.trans (c1.mono b0.size)))).mono ?_
  rintro e w2 ⟨rfl, b2⟩
  have c2 := c1.trans (b2.mono c1.size)
  have H2 := Lib.hid (H1.out.below b2)
  go_wp2_with fail
  refine (forkC M F s rs w2 H2.out (by omega)).mono ?_
  rintro e w3 ⟨M1, F1, s1, rfl, hs1, hM1, hF1, b3⟩
  have c3 := c2.trans (b3.mono c2.size)
  have H3 := Lib.hid (H2.out.below b3)
  have AP := Lib.hid (show ∀ b, M1 b ∨ F1 b → ¬ M b from fun b hb hm => by
    have hlt := H2.out.lt b (.inl hm)
    rcases hb with h | h
    · have := hM1 b h; omega
    · rcases hF1 b h with h | h
      · exact H2.out.dis b hm h
      · omega)
  have HW := Lib.hid hs1
  clear hs1 hM1 hF1
  have r3 : w3.rangeAt w.heap.size 0 cs := by have := (X0.out.belowB c3 lx).range; simpa using this
  go_wp2_with (refine wpList_load_mid rfl 31 _ (by rfl) w.heap.size 0 (by rfl) cs _ r3 Tryz.underlying31 rfl (by rw [hcl]; kernel_rfl) ?_)
  have BW3 := b0.trans (c3.mono b0.size)
  refine (insertC rc st M F (fun b => b < w.heap.size) s rs r cs w3 H3.out (HG.out.below BW3) (HX.out.below BW3) (fun b h => Nat.lt_of_lt_of_le h BW3.size) HGOOD.out (by omega) (by omega)).mono ?_
  rintro e w4 ⟨rfl, M2, F2, h4, k4, hM2, hF2⟩
  have hlow : ∀ b, M b → w0.heap.size ≤ b := fun b h => HMF.out b (.inl h)
  have c4 := c3.trans (k4.below c3.size (fun i hi hm => by have := hlow i hm; omega))
  obtain ⟨hw4, ap4⟩ := apart_step HW.out AP.out k4 hM2
  have HMF2 := Lib.hid (show ∀ b, M2 b ∨ F2 b → w0.heap.size ≤ b from fun b hb => by
    have := c3.size
    rcases hb with h | h
    · rcases hM2 b h with h | h
      · exact HMF.out b (.inl h)
      · omega
    · rcases hF2 b h with h | h
      · exact HMF.out b (.inr h)
      · omega)
  have H4 := Lib.hid h4
  have HW4 := Lib.hid hw4
  have AP4 := Lib.hid ap4
  obtain ⟨E, hE⟩ : ∃ E, Sto.insE rc st rs r = E := ⟨_, rfl⟩
  have HE := Lib.hid hE
  rw [hE]
  clear h4 hw4 ap4 k4 hM2 hF2 r3 hE
  by_cases hz : E = 0
  case neg =>
    have t1 : (E != 0) = true := by simpa using hz
    have hS : Sto.insS rc st rs r = rs := by unfold Sto.insS; rw [if_neg (by rw [HE.out]; exact hz)]
    have h4 := H4.out
    rw [hS] at h4
    have H5 := Lib.hid h4
    clear h4 hS hz
    go_wp2_with fail
    refine (alikeC M2 F2 M1 F1 s s1 rs w4 H5.out HW4.out (by omega) HGOOD.out.bulk).mono ?_
    rintro e w5 ⟨rfl, b5⟩
    go_wp2_with fail
    go_ret
    exact ⟨rfl, b0.trans ((c4.trans (b5.mono c4.size)).mono b0.size)⟩
  subst hz
  have HGET := Lib.hid (get_ins HGOOD.out.rise HE.out)
  have HAG := Lib.hid (ins_again (rc := rc) (st := st) HGOOD.out.rise HE.out)
  have HGS := Lib.hid (Sto.good_ins (r := r) HGOOD.out (by omega))
  have HSL := Lib.hid (Sto.insS_length rc st rs r)
  obtain ⟨RS, hRS⟩ : ∃ RS, Sto.insS rc st rs r = RS := ⟨_, rfl⟩
  rw [hRS] at H4 HGET HAG HGS HSL
  have HRS2 := Lib.hid hRS
  have hRSl : RS.length ≤ 4194305 := by have := HSL.out; omega
  clear hRS
  go_wp2_with fail
  have hS3 : ∀ w', Below w4.heap.size w4 w' → w'.cell? ⟨w.heap.size, 0, none⟩ = some (.string r.path) := fun w' hb => by
    have := (X0.out.belowB (c4.trans (hb.mono c4.size)) lx).cell 0
    rw [this, List.getElem?_toArray, List.getElem?_eq_getElem (by omega), H0.out]
  have hS0 := hS3 w4.drew (Below.refl _ w4).drew
  have hget := fun w' (hb : Below w4.heap.size w4 w') => getSome w' (H4.out.below hb) (by omega) HGS.out.bulk HGET.out
  refine wp_region_held_drew (S := fun w' => w'.cell? ⟨w.heap.size, 0, none⟩ = some (.string r.path)) (by kernel_rfl) hS0 (fun hHeld => ?_)
  refine wpAnyH_take (i := 0) (v := ?_) rfl (by kernel_rfl) (by kernel_rfl) (by kernel_rfl) (fun _ _ _ h => h) (Or.inl ⟨by rfl, ?_⟩) (by assumption) ?_
  rotate_left
  · (intro w hSw; go_simp; try with_reducible rfl)
  simp only [Act.put, List.setIfInBounds_toArray, List.set_cons_zero, List.set_cons_succ]
  refine wpAnyH_take (i := 1) (v := ?_) rfl (by kernel_rfl) (by kernel_rfl) (by kernel_rfl) (fun _ _ _ h => h) (Or.inl ⟨by rfl, ?_⟩) (by assumption) ?_
  rotate_left
  · (intro w hSw; go_simp; try with_reducible rfl)
  simp only [Act.put, List.setIfInBounds_toArray, List.set_cons_zero, List.set_cons_succ]
  refine wpAnyH_take (i := 2) (v := ?_) rfl (by kernel_rfl) (by kernel_rfl) (by kernel_rfl) (fun _ _ _ h => h) (Or.inl ⟨by rfl, ?_⟩) (by assumption) ?_
  rotate_left
  · (intro w hSw; go_simp; try with_reducible rfl)
  simp only [Act.put, List.setIfInBounds_toArray, List.set_cons_zero, List.set_cons_succ]
  refine wpAnyH_take (i := 3) (v := ?_) rfl (by kernel_rfl) (by kernel_rfl) (by kernel_rfl) (fun _ _ _ h => h) (Or.inl ⟨by rfl, ?_⟩) (by assumption) ?_
  rotate_left
  · (intro w hSw; go_simp; try with_reducible rfl)
  simp only [Act.put, List.setIfInBounds_toArray, List.set_cons_zero, List.set_cons_succ]
  refine wpAnyH_take (i := 4) (v := ?_) rfl (by kernel_rfl) (by kernel_rfl) (by kernel_rfl) (fun _ _ _ h => h) (Or.inl ⟨by rfl, ?_⟩) (by assumption) ?_
  rotate_left
  · (intro w hSw; go_simp; try with_reducible rfl)
  simp only [Act.put, List.setIfInBounds_toArray, List.set_cons_zero, List.set_cons_succ]
  refine wpAnyH_ready (rs := [5, 9]) (by kernel_rfl) (by simp) ?_
  refine AllReadyH.cons rfl (fun K hK => ?armA) (AllReadyH.cons rfl (fun K hK => ?armB) AllReadyH.nil)
  case' armA =>
    go_simp
    refine (hget w4.drew (Below.refl _ w4).drew).mono ?_
    rintro e wg3 ⟨oc, hol, hoo, rfl, b3, hrec⟩
    have b3' : Below w4.heap.size w4 wg3 := Copy.below_undrew b3
    refine hK.out _ _ (hS3 wg3 b3') (fun hHeld => ?_)
    clear hK K
    refine wpAnyH_take (i := 6) (v := ?_) rfl (by kernel_rfl) (by kernel_rfl) (by kernel_rfl) (fun _ _ _ h => h) (Or.inl ⟨by rfl, ?_⟩) (by assumption) ?_
    rotate_left
    · (intro w hSw; go_simp; try with_reducible rfl)
    simp only [Act.put, List.setIfInBounds_toArray, List.set_cons_zero, List.set_cons_succ]
    refine wpAnyH_take (i := 7) (v := ?_) rfl (by kernel_rfl) (by kernel_rfl) (by kernel_rfl) (fun _ _ _ h => h) (Or.inl ⟨by rfl, ?_⟩) (by assumption) ?_
    rotate_left
    · (intro w hSw; go_simp; try with_reducible rfl)
    simp only [Act.put, List.setIfInBounds_toArray, List.set_cons_zero, List.set_cons_succ]
    refine wpAnyH_take (i := 8) (v := ?_) rfl (by kernel_rfl) (by kernel_rfl) (by kernel_rfl) (fun _ _ _ h => h) (Or.inl ⟨by rfl, ?_⟩) (by assumption) ?_
    rotate_left
    · (intro w hSw; go_simp; try with_reducible rfl)
    simp only [Act.put, List.setIfInBounds_toArray, List.set_cons_zero, List.set_cons_succ]
    refine wpAnyH_ready (rs := [9]) (by kernel_rfl) (by simp) ?_
    refine AllReadyH.cons rfl (fun K hK => ?_) AllReadyH.nil
    go_simp
    change K _ (wg3.alloc (.cells Ins.zeroRec.cells 31))
    obtain ⟨WN, hWN⟩ : ∃ W, wg3.alloc (.cells Ins.zeroRec.cells 31) = W := ⟨_, rfl⟩
    obtain ⟨bN3, xN⟩ := alloc_fact hWN
    have bN : Below w4.heap.size w4 WN := b3'.trans (bN3.mono b3'.size)
    rw [hWN]
    refine hK.out _ _ (hS3 WN bN) (fun hHeld => ?_)
    have hrecN := hrec.below bN3
    have nbl : w4.heap.size ≤ wg3.heap.size := b3'.size
    have hN : RecAt (fun b => b ≠ wg3.heap.size) WN oc r := hrecN.sub (fun b _ h => by have := h.2; omega)
    obtain ⟨nb, hnb2⟩ : ∃ nb, wg3.heap.size = nb := ⟨_, rfl⟩
    rw [hnb2] at xN nbl hN ⊢
    clear hK K hnb2 hWN bN3 hrec b3' b3
  case' armB =>
    go_simp
    change K _ (w4.alloc (.cells Ins.zeroRec.cells 31)).drew
    obtain ⟨wg4, hwg4⟩ : ∃ W, (w4.alloc (.cells Ins.zeroRec.cells 31)).drew = W := ⟨_, rfl⟩
    have x4 : Bx wg4 w4.heap.size Ins.zeroRec.cells 31 := by rw [← hwg4]; exact Bx.new w4 Ins.zeroRec.cells 31
    have b4 : Below w4.heap.size w4 wg4 := by rw [← hwg4]; exact ((Below.refl _ w4).alloc (Nat.le_refl _) _).drew
    rw [hwg4]
    refine hK.out _ _ (hS3 wg4 b4) (fun hHeld => ?_)
    obtain ⟨nb, hnb2⟩ : ∃ nb, w4.heap.size = nb := ⟨_, rfl⟩
    rw [hnb2]
    clear hK K hwg4
    refine wpAnyH_ready (rs := [5]) (by kernel_rfl) (by simp) ?_
    refine AllReadyH.cons rfl (fun K hK => ?_) AllReadyH.nil
    go_simp
    refine (hget wg4 b4).mono ?_
    rintro e WN ⟨oc, hol, hoo, rfl, b5, hrecN⟩
    have bN : Below w4.heap.size w4 WN := b4.trans (b5.mono b4.size)
    refine hK.out _ _ (hS3 WN bN) (fun hHeld => ?_)
    clear hK K
    refine wpAnyH_take (i := 6) (v := ?_) rfl (by kernel_rfl) (by kernel_rfl) (by kernel_rfl) (fun _ _ _ h => h) (Or.inl ⟨by rfl, ?_⟩) (by assumption) ?_
    rotate_left
    · (intro w hSw; go_simp; try with_reducible rfl)
    simp only [Act.put, List.setIfInBounds_toArray, List.set_cons_zero, List.set_cons_succ]
    refine wpAnyH_take (i := 7) (v := ?_) rfl (by kernel_rfl) (by kernel_rfl) (by kernel_rfl) (fun _ _ _ h => h) (Or.inl ⟨by rfl, ?_⟩) (by assumption) ?_
    rotate_left
    · (intro w hSw; go_simp; try with_reducible rfl)
    simp only [Act.put, List.setIfInBounds_toArray, List.set_cons_zero, List.set_cons_succ]
    refine wpAnyH_take (i := 8) (v := ?_) rfl (by kernel_rfl) (by kernel_rfl) (by kernel_rfl) (fun _ _ _ h => h) (Or.inl ⟨by rfl, ?_⟩) (by assumption) ?_
    rotate_left
    · (intro w hSw; go_simp; try with_reducible rfl)
    simp only [Act.put, List.setIfInBounds_toArray, List.set_cons_zero, List.set_cons_succ]
    have xN := x4.below b5
    have nbl : w4.heap.size ≤ nb := by omega
    have l4 := x4.lt
    have hN : RecAt (fun b => b ≠ w4.heap.size) WN oc r := hrecN.sub (fun b _ h => by have := h.1; omega)
    rw [hnb2] at xN hN
    clear hnb2 x4 b4 b5 l4
  all_goals
    refine wpAnyH_ready (rs := [10]) (by kernel_rfl) (by simp) ?_
    refine AllReadyH.cons rfl (fun K hK => ?_) AllReadyH.nil
    rw [if_pos (by rfl)]
    refine wp_store_mid 31 _ _ (by rfl) nb 0 oc.toArray (by rfl) (by rfl) ?_ ?_ ?_ ?_
    · exact xN.there oc.toArray.size (by rw [show oc.toArray.size = 39 by simpa using hol]; rfl)
    · rw [List.size_toArray, hol]; kernel_rfl
    · exact all_oneCell_toArray hoo
    refine Mem.named ?_
    intro WS hWS
    have hW2 : WN.setCells nb 0 oc = WS := hWS
    have bW : Below w4.heap.size w4 WS := by rw [← hW2]; exact Tab.below_setCells nbl _ _ bN (Nat.le_refl _)
    have rW : WS.rangeAt nb 0 oc := by rw [← hW2]; exact World.rangeAt_setCells_same _ _ _ _ (xN.there _ (by rw [hol]; rfl))
    have kW : Kp (fun b => b = nb) WN WS := by rw [← hW2]; exact kp_setCells (M := fun b => b = nb) (fun _ => rfl) _ _ (Kp.refl _ WN)
    have hWR : RecAt (fun b => b ≠ nb) WS oc r := hN.ag (Ag.of_kp kW (fun q _ hq e => hq e))
    refine hK.out _ _ (hS3 WS bW) (fun hHeld => ?_)
    clear hK K hWS hW2
    refine wpAnyH_take (i := 11) (v := ?_) rfl (by kernel_rfl) (by kernel_rfl) (by kernel_rfl) (fun _ _ _ h => h) (Or.inl ⟨by rfl, ?_⟩) (by assumption) ?_
    rotate_left
    · (intro w hSw; go_simp; try with_reducible rfl)
    simp only [Act.put, List.setIfInBounds_toArray, List.set_cons_zero, List.set_cons_succ]
    refine wpAnyH_done (by kernel_rfl) ?_ _
    clear hHeld
    have c5 : Below w0.heap.size w0 WS := c4.trans (bW.mono c4.size)
    have BW5 := b0.trans (c5.mono b0.size)
    have r5 : WS.rangeAt w.heap.size 0 cs := by have := (X0.out.belowB c5 lx).range; simpa using this
    have hu := Tryz.underlying31
    have H5 := Lib.hid (H4.out.below bW)
    have HW5 := Lib.hid (HW4.out.below bW)
    have HWR := Lib.hid hWR
    clear hS0 hS3 hget hWR hrecN hN xN kW
    go_wp2_with (first
      | (refine wpList_load_midG (by first | rfl | simp [Region.wanted, yielded]) 31 _ (by rfl) nb 0 (by rfl) oc _ rW hu rfl (by rw [hol]; kernel_rfl) ?_)
      | (refine wpList_load_midG (by first | rfl | simp [Region.wanted, yielded]) 31 _ (by rfl) w.heap.size 0 (by rfl) cs _ r5 hu rfl (by rw [hcl]; kernel_rfl) ?_))
    refine (rsameC _ _ r r oc cs WS HWR.out (HX.out.below BW5) (by omega)).mono ?_
    rintro e w6 ⟨rfl, b6⟩
    rw [show eqR r r = true from decide_eq_true rfl]
    have c6 := c5.trans (b6.mono c5.size)
    have H6 := Lib.hid (H5.out.below b6)
    have HW6 := Lib.hid (HW5.out.below b6)
    clear rW r5
    go_wp2_with fail
    refine (forkC M2 F2 s RS w6 H6.out (by omega)).mono ?_
    rintro e w7 ⟨M3, F3, s3, rfl, hs3, hM3, hF3, b7⟩
    have c7 := c6.trans (b7.mono c6.size)
    have BW7 := b0.trans (c7.mono b0.size)
    have H7 := Lib.hid (H6.out.below b7)
    have HW7 := Lib.hid (HW6.out.below b7)
    have AP7 := Lib.hid (show ∀ b, M3 b ∨ F3 b → ¬ M2 b from fun b hb hm => by
      have hlt := H6.out.lt b (.inl hm)
      rcases hb with h | h
      · have := hM3 b h; omega
      · rcases hF3 b h with h | h
        · exact H6.out.dis b hm h
        · omega)
    have HN7 := Lib.hid hs3
    have r7 : w7.rangeAt w.heap.size 0 cs := by have := (X0.out.belowB c7 lx).range; simpa using this
    clear hs3 hM3 hF3
    go_wp2_with (refine wpList_load_midG (by first | rfl | simp [Region.wanted, yielded]) 31 _ (by rfl) w.heap.size 0 (by rfl) cs _ r7 hu rfl (by rw [hcl]; kernel_rfl) ?_)
    refine (insertC rc st M2 F2 (fun b => b < w.heap.size) s RS r cs w7 H7.out (HG.out.below BW7) (HX.out.below BW7) (fun b h => Nat.lt_of_lt_of_le h BW7.size) HGS.out (by omega) (by omega)).mono ?_
    rintro e w8 ⟨rfl, M4, F4, h8, k8, hM4, hF4⟩
    rw [HAG.out.1]
    rw [HAG.out.2] at h8
    have c8 := c7.trans (k8.below c7.size (fun i hi hm => by have := HMF2.out i (.inl hm); omega))
    obtain ⟨hw8, ap8⟩ := apart_step HW7.out AP4.out k8 hM4
    obtain ⟨hn8, an8⟩ := apart_step HN7.out AP7.out k8 hM4
    have H8 := Lib.hid h8
    have HW8 := Lib.hid hw8
    have AP8 := Lib.hid ap8
    have HMF4 := Lib.hid (show ∀ b, M4 b → w0.heap.size ≤ b from fun b h => by
      have := c7.size
      rcases hM4 b h with h | h
      · exact HMF2.out b (.inl h)
      · omega)
    clear h8 hw8 ap8 k8 hM4 hF4 r7
    go_wp2_with fail
    refine (alikeC M4 F4 M3 F3 s s3 RS w8 H8.out hn8 (by omega) HGS.out.bulk).mono ?_
    rintro e w9 ⟨rfl, b9⟩
    have c9 := c8.trans (b9.mono c8.size)
    have H9 := Lib.hid (H8.out.below b9)
    have HW9 := Lib.hid (HW8.out.below b9)
    clear hn8 an8
    have hS3 : ∀ w', Below w9.heap.size w9 w' → w'.cell? ⟨w.heap.size, 0, none⟩ = some (.string r.path) := fun w' hb => by
      have := (X0.out.belowB (c9.trans (hb.mono c9.size)) lx).cell 0
      rw [this, List.getElem?_toArray, List.getElem?_eq_getElem (by omega), H0.out]
    have hS0 := hS3 w9 (Below.refl _ _)
    have hSd := hS3 w9.drew (Below.refl _ w9).drew
    obtain ⟨B, hB⟩ : ∃ B, Sto.has rs r.path = B := ⟨_, rfl⟩
    have HB := Lib.hid hB
    have hHas := fun w' (hb : Below w9.heap.size w9 w') => hasC M1 F1 s1 rs r.path w' (HW9.out.below hb) (by omega)
    rw [hB] at hHas
    clear hB
    go_wp2_with fail
    go_region_held3 (fun w' => w'.cell? ⟨w.heap.size, 0, none⟩ = some (.string r.path)) (first | assumption | exact hSd | exact hS1 | go_keep) ((go_at_call 22; refine (hHas _ (Below.refl _ w9).drew).mono ?_; rintro e10 w10 ⟨rfl, b10⟩; have b10' := Copy.below_undrew b10; have hS1 := hS3 w10 b10'))
    have c10 := c9.trans (b10'.mono c9.size)
    have H10 := Lib.hid (H9.out.below b10')
    have HW10 := Lib.hid (HW9.out.below b10')
    clear hS0 hSd hS1 hHas
    cases B with
    | true =>
      have hRR : RS = rs := by rw [← HRS2.out]; exact ins_old HE.out HB.out
      have h10 := H10.out
      rw [hRR] at h10
      have H11 := Lib.hid h10
      clear h10 hRR
      go_wp2_with fail
      refine (alikeC M4 F4 M1 F1 s s1 rs w10 H11.out HW10.out (by omega) HGOOD.out.bulk).mono ?_
      rintro e w11 ⟨rfl, b11⟩
      go_wp2_with fail
      go_ret
      exact ⟨rfl, b0.trans ((c10.trans (b11.mono c10.size)).mono b0.size)⟩
    | false =>
      have hRP : RS = Sp.put Rec.path rs r := by rw [← HRS2.out]; exact ins_new HE.out HB.out
      have hRL : RS.length = rs.length + 1 := by rw [hRP, Sp.put_length]
      have hcp := cutE_put HGOOD.out HB.out
      rw [← hRP] at hcp
      have HCP := Lib.hid hcp
      have hS3 : ∀ w', Below w10.heap.size w10 w' → w'.cell? ⟨w.heap.size, 0, none⟩ = some (.string r.path) := fun w' hb => by
        have := (X0.out.belowB (c10.trans (hb.mono c10.size)) lx).cell 0
        rw [this, List.getElem?_toArray, List.getElem?_eq_getElem (by omega), H0.out]
      have hSd := hS3 w10.drew (Below.refl _ w10).drew
      have hL1 := lenC M4 F4 s RS w10.drew (H10.out.below (Below.refl _ w10).drew)
      have hL2 := lenC M1 F1 s1 rs w10.drew (HW10.out.below (Below.refl _ w10).drew)
      have tl : ((RS.length : Int) == (rs.length : Int) + 1) = true := by rw [hRL]; simp
      have hwr : IntKind.i64.wrap ((rs.length : Int) + 1) = (rs.length : Int) + 1 := by rw [IntKind.wrap_i64]; omega
      have hC := cutC M4 F4 s RS r.path w10.drew (H10.out.below (Below.refl _ w10).drew) (by omega)
      rw [HCP.out.1, HCP.out.2] at hC
      have HC := Lib.hid hC
      clear hRP hRL hcp hC
      go_wp2_with fail
      go_region_held3 (fun w' => w'.cell? ⟨w.heap.size, 0, none⟩ = some (.string r.path)) (first | assumption | exact hSd | exact hS1 | go_keep) (first
        | (go_at_call 30; first
            | (refine hL1.mono ?_; rintro e11 w11 ⟨rfl, rfl⟩)
            | (refine hL2.mono ?_; rintro e11 w11 ⟨rfl, rfl⟩))
        | (go_at_call 31; refine HC.out.mono ?_; rintro e12 w12 ⟨rfl, M5, h12, k12, hM5⟩; have hS1 : w12.cell? ⟨w.heap.size, 0, none⟩ = some (.string r.path) := (k12.cell (p := ⟨w.heap.size, 0, none⟩) (World.block_lt_of_cell? w10.drew _ hSd) (fun hm => by have := HMF4.out w.heap.size hm; omega)).trans hSd; have hw12 := HW10.out.kp (w' := w12) (N := M4) (by exact (Kp.of_below (Below.refl _ w10).drew : Kp M4 w10 w10.drew).then k12) (fun b hb => AP8.out b (.inl hb)) (fun b hb => AP8.out b (.inr hb)); have c12 := (c10.trans ((Below.refl _ w10).drew.mono c10.size)).trans (k12.below (by have := c10.size; exact this) (fun i hi hm => by have := HMF4.out i hm; omega)))
        | (go_at_call 28; refine (alikeC M5 F4 M1 F1 s s1 rs w12 h12 hw12 (by omega) HGOOD.out.bulk).mono ?_; rintro e13 w13 ⟨rfl, b13⟩; have c13 := c12.trans (b13.mono c12.size); have hS1 : w13.cell? ⟨w.heap.size, 0, none⟩ = some (.string r.path) := (b13.cell (p := ⟨w.heap.size, 0, none⟩) (World.block_lt_of_cell? w12 _ hS1)).trans hS1))
      go_wp2_with fail
      go_ret
      exact ⟨rfl, b0.trans (c13.mono b0.size)⟩
end Go.Proofs.YtmmmghpimdfleaaGreatDoor.storeOffers

