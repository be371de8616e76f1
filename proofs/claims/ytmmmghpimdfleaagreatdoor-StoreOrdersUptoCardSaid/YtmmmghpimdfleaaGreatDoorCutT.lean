/-
  table.Cut, Store.Cut.
-/
import Derived.Test.YtmmmghpimdfleaaGreatDoorGrpV
import Derived.Test.YtmmmghpimdfleaaGreatDoorDelO
import Derived.Test.YtmmmghpimdfleaaGreatDoorGrpN
set_option linter.unusedVariables false
set_option linter.unusedSimpArgs false
namespace Go.Proofs.YtmmmghpimdfleaaGreatDoor.Tab
open Go.RowKit Mem Tr
open Go.Proofs.YtmmmghpimdfleaaGreatDoor.Own

theorem cut_place {rs : List Rec} (hr : Sp.Rising Rec.path rs) {p : ByteArray} (h : Sto.has rs p = true) :
    Sp.place Rec.path rs p < rs.length ∧ Sp.cut Rec.path rs p = rs.take (Sp.place Rec.path rs p) ++ rs.drop (Sp.place Rec.path rs p + 1) := by
  unfold Sto.has at h
  have hp := Sp.get_place hr p
  by_cases hlt : Sp.place Rec.path rs p < rs.length
  · rw [dif_pos hlt] at hp
    by_cases he : rs[Sp.place Rec.path rs p].path = p
    · refine ⟨hlt, ?_⟩
      have hsp : rs = rs.take (Sp.place Rec.path rs p) ++ rs[Sp.place Rec.path rs p] :: rs.drop (Sp.place Rec.path rs p + 1) := by
        rw [← List.drop_eq_getElem_cons hlt, List.take_append_drop]
      have hnd : ∀ j (hj : j < rs.length), j ≠ Sp.place Rec.path rs p → rs[j].path ≠ p := by
        intro j hj hne e
        have h1 := Sp.rising_inj hr (List.getElem_mem hj) (List.getElem_mem hlt) (e.trans he.symm)
        rcases Nat.lt_or_gt_of_ne hne with hl | hl
        · have := List.pairwise_iff_getElem.1 hr j _ hj hlt hl
          rw [e, he, Sp.lt_irrefl] at this; cases this
        · have := List.pairwise_iff_getElem.1 hr _ j hlt hj hl
          rw [e, he, Sp.lt_irrefl] at this; cases this
      have keep : ∀ l : List Rec, (∀ r ∈ l, r.path ≠ p) → l.filter (fun r => decide (r.path ≠ p)) = l := fun l hl => by
        rw [List.filter_eq_self]
        intro r hr; simpa using hl r hr
      unfold Sp.cut
      conv => lhs; rw [hsp]
      rw [List.filter_append, List.filter_cons_of_neg (by simpa using he), keep _ (fun r hr => ?_), keep _ (fun r hr => ?_)]
      · obtain ⟨j, hj, rfl⟩ := List.getElem_of_mem hr
        simp at hj
        rw [List.getElem_drop]
        exact hnd _ (by omega) (by omega)
      · obtain ⟨j, hj, rfl⟩ := List.getElem_of_mem hr
        simp at hj
        rw [List.getElem_take]
        exact hnd j (by omega) (by omega)
    · rw [if_neg he] at hp; rw [hp] at h; cases h
  · rw [dif_neg hlt] at hp; rw [hp] at h; cases h
theorem rising_cut {rs : List Rec} (hr : Sp.Rising Rec.path rs) (p : ByteArray) : Sp.Rising Rec.path (Sp.cut Rec.path rs p) := List.Pairwise.sublist List.filter_sublist hr

/-- What Cut gives where the key is there. -/
def PostTCut (M F : Nat → Prop) (w : World) (t : Nat) (rs : List Rec) (e : Ending) (w' : World) : Prop :=
  e = .returned (.bool true) ∧ ∃ M', At M' F w' t rs ∧ Kp M w w' ∧ ∀ b, M' b → M b

set_option maxHeartbeats 4000000 in
set_option maxRecDepth 20000 in
theorem cutC (M F : Nat → Prop) (t : Nat) (rs : List Rec) (p : ByteArray) (w : World) (h : At M F w t rs) (hin : Sto.has rs p = true) (hn : rs.length ≤ 1073741823) :
    Calls Tryz.prog 81 #[.pointer (some ⟨t, 0, none⟩), .string p] w (PostTCut M F w t (Sp.cut Rec.path rs p)) := by
  have HAT := Lib.hid h
  obtain ⟨⟨kv, vv, xs, b0, o1, o2, hv, m1, m2⟩, mt, dis, lt, ltF, rise⟩ := h
  obtain ⟨hlt, hcut⟩ := cut_place rise hin
  have hsc := searchC kv rs p w o1 rise (by omega)
  rw [hin] at hsc
  obtain ⟨I, hI⟩ : ∃ I, Sp.place Rec.path rs p = I := ⟨_, rfl⟩
  rw [hI] at hsc hlt hcut
  have HCUT := Lib.hid hcut
  have HO1 := Lib.hid o1
  have HO2 := Lib.hid o2
  have HV := Lib.hid hv
  have B0 := Lib.hid b0
  obtain ⟨n, hnn⟩ : ∃ n, rs.length = n := ⟨_, rfl⟩
  rw [hnn] at hlt hn HO1 HO2
  have HN := Lib.hid hnn
  obtain ⟨ka, kc, rfl⟩ := own_len o1
  obtain ⟨va, vc, rfl⟩ := own_len o2
  rw [hnn] at B0 hsc HO1 HO2 m1 m2
  have c0 : w.cell? ⟨t, 0, none⟩ = some (.slice ka n kc) := B0.out.cell 0
  clear hcut hI o1 o2 hv b0 rise hin hnn
  have e0 : (0 : Int) ≤ (I : Int) := Int.natCast_nonneg _
  have hw : IntKind.i64.wrap ((I : Int) + 1) = (I : Int) + 1 := by rw [IntKind.wrap_i64]; omega
  go_enter Tryz.func81, Tryz.ntmps81
  go_wp2_with fail
  refine hsc.mono ?_
  rintro e w1 ⟨rfl, q, hw1⟩
  have dn1 : Dn w w1 := ⟨q, hw1⟩
  clear hsc hw1 c0
  have B1 := Lib.hid (B0.out.dn dn1)
  have c0 : w1.cell? ⟨t, 0, none⟩ = some (.slice ka n kc) := B1.out.cell 0
  have O1 := own_block HO1.out (w' := w1) (fun b _ => by rw [dn1.heap])
  have O2 := own_block HO2.out (w' := w1) (fun b _ => by rw [dn1.heap])
  have OO1 := Lib.hid O1
  have OO2 := Lib.hid O2
  clear O1 O2
  go_wp2_with fail
  refine (delStr _ n I (rs.map Rec.path) w1 (by rw [List.length_map]; exact HN.out) (by rw [List.map_map]; exact OO1.out) hlt).mono ?_
  rintro e w2 ⟨kv', rfl, hown2, kp2, hat2⟩
  obtain ⟨ka', kc', rfl⟩ := own_len hown2
  have HW2 := Lib.hid hown2
  have b2 : Bx w2 t #[.slice ka n kc, .slice va n vc] 174 := B1.out.kp kp2 (fun e => own_box OO1.out B1.out (by decide) e)
  have o22 := Lib.hid (own_kp OO2.out kp2 (fun b hb h => own_types OO1.out OO2.out (by decide) b h hb))
  have f2 := b2.frozen 0
  have BB2 := Lib.hid b2
  have d2 : w2.cell? ⟨t, 0, none⟩ = some (.slice ka n kc) := b2.cell 0
  have d21 : w2.cell? ⟨t, 1, none⟩ = some (.slice va n vc) := b2.cell 1
  have d3 : (w2.setCell ⟨t, 0, none⟩ (.slice ka' (n - 1) kc')).cell? ⟨t, 1, none⟩ = some (.slice va n vc) := by
    have := (b2.set 0 (.slice ka' (n - 1) kc')).cell 1
    simpa using this
  clear hown2 b2
  go_wp2_with fail
  refine calls_named fun w3 hw3 => ?_
  have b3 : Bx w3 t #[.slice ka' (n - 1) kc', .slice va n vc] 174 := by
    have := BB2.out.set 0 (.slice ka' (n - 1) kc')
    rw [hw3] at this
    simpa using this
  have kp3 : Kp (fun b => b = t) w2 w3 := by rw [← hw3]; exact (Kp.refl _ w2).setCell _ _ (fun _ => rfl)
  have o13 := Lib.hid (own_kp HW2.out kp3 (fun b hb e => own_box HW2.out BB2.out (by decide) (by rw [hb, e])))
  have o23 := Lib.hid (own_kp o22.out kp3 (fun b hb e => own_box o22.out BB2.out (by decide) (by rw [hb, e])))
  have BB3 := Lib.hid b3
  clear hw3 b3 f2 d2 d21 d3
  refine (delRec _ n I xs w3 o23.out hlt HV.out.one).mono ?_
  rintro e w4 ⟨vv', rfl, hown4, kp4, hat4⟩
  obtain ⟨va', vc', rfl⟩ := own_len hown4
  have HW4 := Lib.hid hown4
  have b4 : Bx w4 t #[.slice ka' (n - 1) kc', .slice va n vc] 174 := BB3.out.kp kp4 (fun e => own_box o23.out BB3.out (by decide) e)
  have o14 := Lib.hid (own_kp o13.out kp4 (fun b hb h => own_types o13.out o23.out (by decide) b hb h))
  have f4 := b4.frozen 1
  have d4 : w4.cell? ⟨t, 1, none⟩ = some (.slice va n vc) := b4.cell 1
  have BB4 := Lib.hid b4
  clear hown4 b4
  go_wp2_with fail
  go_ret
  have b5 : Bx (w4.setCell ⟨t, 1, none⟩ (.slice va' (n - 1) vc')) t #[.slice ka' (n - 1) kc', .slice va' (n - 1) vc'] 174 := by simpa using BB4.out.set 1 (.slice va' (n - 1) vc')
  have kp5 : Kp (fun b => b = t) w4 (w4.setCell ⟨t, 1, none⟩ (.slice va' (n - 1) vc')) := (Kp.refl _ w4).setCell _ _ (fun _ => rfl)
  have o15 := own_kp o14.out kp5 (fun b hb e => own_box o14.out BB4.out (by decide) (by rw [hb, e]))
  have o25 := own_kp HW4.out kp5 (fun b hb e => own_box HW4.out BB4.out (by decide) (by rw [hb, e]))
  have kA : Kp M w (w4.setCell ⟨t, 1, none⟩ (.slice va' (n - 1) vc')) :=
    ((((Kp.of_dn dn1 : Kp M w w1).trans kp2 (fun _ _ h => h) (fun i _ h => m1 i h)).trans kp3 (fun _ _ h => h) (fun i _ e => by rw [e]; exact mt)).trans kp4 (fun _ _ h => h) (fun i _ h => m2 i h)).setCell ⟨t, 1, none⟩ _ (fun _ => mt)
  have hl : (Sp.cut Rec.path rs p).length = n - 1 := by rw [HCUT.out, List.length_append, List.length_take, List.length_drop, HN.out]; omega
  have vr := VRow.append ((HV.out.split (I + 1)).2) ((HV.out.split I).1)
  rw [← HCUT.out] at vr
  refine ⟨rfl, M, ⟨⟨_, _, _, b5, ?_, ?_, vr.ag (Ag.of_kp kA fun k _ hk hm => dis k hm hk), fun b hb => m1 b (hat2 b hb), fun b hb => m2 b (hat4 b hb)⟩, mt, dis, fun b hb => Nat.lt_of_lt_of_le (lt b hb) kA.size, fun b hb => Nat.lt_of_lt_of_le (ltF b hb) kA.size, rising_cut HAT.out.rise p⟩, kA, fun b hb => hb⟩
  · rw [hl, HCUT.out]
    have e : (rs.take I ++ rs.drop (I + 1)).map (fun r => Value.string r.path) = ((rs.map Rec.path).take I ++ (rs.map Rec.path).drop (I + 1)).map Value.string := by
      simp only [List.map_append, List.map_take, List.map_drop, List.map_map]; rfl
    rw [e]; exact o15
  · rw [hl]; exact o25
end Go.Proofs.YtmmmghpimdfleaaGreatDoor.Tab

namespace Go.Proofs.YtmmmghpimdfleaaGreatDoor.St
open Go.RowKit Mem Tr
open Go.Proofs.YtmmmghpimdfleaaGreatDoor.Own

/-- the error's number of Cut -/
def cutE (rs : List Rec) (p : ByteArray) : Int := if Sto.has rs p = true then (if refd rs p = [] then 0 else 170) else 3
def cutS (rs : List Rec) (p : ByteArray) : List Rec := if cutE rs p = 0 then Sp.cut Rec.path rs p else rs
/-- What Store.Cut gives. -/
def PostCut (M F : Nat → Prop) (w : World) (s : Nat) (n : Int) (rs : List Rec) (e : Ending) (w' : World) : Prop :=
  e = .returned (.int .i64 n) ∧ ∃ M', Is M' F w' s rs ∧ Kp M w w' ∧ ∀ b, M' b → M b

set_option maxHeartbeats 2000000 in
set_option maxRecDepth 20000 in
theorem cutC (M F : Nat → Prop) (s : Nat) (rs : List Rec) (p : ByteArray) (w : World) (h : Is M F w s rs) (hn : rs.length ≤ 1073741823) :
    Calls Tryz.prog 31 #[.pointer (some ⟨s, 0, none⟩), .string p] w (PostCut M F w s (cutE rs p) (cutS rs p)) := by
  by_cases hu : Sto.has rs p = false ∨ refd rs p ≠ []
  · refine (cutNoC M F s rs p w h hn hu).mono ?_
    rintro e w' ⟨hb, rfl⟩
    have hE : cutE rs p = if Sto.has rs p = true then 170 else 3 := by
      unfold cutE
      rcases hu with h1 | h1
      · simp [h1]
      · simp [h1]
    have hE0 : cutE rs p ≠ 0 := by rw [hE]; split <;> decide
    have hS : cutS rs p = rs := by unfold cutS; rw [if_neg hE0]
    rw [hS]
    exact ⟨by rw [hE], M, h.below hb, Kp.of_below hb, fun _ h => h⟩
  · have h1 : Sto.has rs p = true := by
      cases hh : Sto.has rs p
      · exact absurd (.inl hh) hu
      · rfl
    have h2 : refd rs p = [] := by
      refine Classical.byContradiction fun hne => hu (.inr hne)
    have hE : cutE rs p = 0 := by unfold cutE; rw [if_pos h1, if_pos h2]
    have hS : cutS rs p = Sp.cut Rec.path rs p := by unfold cutS; rw [if_pos hE]
    rw [hE, hS]
    have hR := referrersC M F s rs p w h hn
    have HIS := Lib.hid h
    have H1 := Lib.hid h1
    have H2 := Lib.hid h2
    clear h h1 h2 hu hE hS
    go_enter Tryz.func31, Tryz.ntmps31
    go_wp2_with fail
    refine hR.mono ?_
    rintro e w1 ⟨b1, hm⟩
    rw [H1.out] at hm
    obtain ⟨v, rfl, hown⟩ := hm
    rw [H2.out] at hown
    obtain ⟨ao, c, rfl⟩ := Tab.own_len hown
    obtain ⟨⟨t, bs, ha⟩, hso⟩ := HIS.out
    have c0 : w1.cell? ⟨s, 0, none⟩ = some (.pointer (some ⟨t, 0, none⟩)) := (bs.below b1).cell 0
    have BS := Lib.hid bs
    have HA := Lib.hid ha
    clear hown bs ha hR
    simp only [List.length_nil]
    go_wp2_with fail
    refine (Tab.cutC M F t rs p w1 (HA.out.below b1) H1.out hn).mono ?_
    rintro e w2 ⟨rfl, M', ha2, kp2, hM2⟩
    have HA2 := Lib.hid ha2
    clear ha2
    go_wp2_with fail
    go_ret
    have kA : Kp M w w2 := (Kp.of_below b1 : Kp M w w1).then kp2
    exact ⟨rfl, M', ⟨⟨t, BS.out.kp kA (fun hm => HIS.out.dis _ hm hso), HA2.out⟩, hso⟩, kA, hM2⟩
end Go.Proofs.YtmmmghpimdfleaaGreatDoor.St
