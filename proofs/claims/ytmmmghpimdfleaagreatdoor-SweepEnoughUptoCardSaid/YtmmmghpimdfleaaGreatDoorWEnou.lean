/-
  SweepEnough: the walk of the law (printed by tools/mkenou.py).
-/
import Derived.Test.YtmmmghpimdfleaaGreatDoorGrpZA
import Derived.Test.YtmmmghpimdfleaaGreatDoorGrpZB
set_option linter.unusedVariables false
set_option linter.unusedSimpArgs false
namespace Go.Proofs.YtmmmghpimdfleaaGreatDoor.sweepEnough
open Go.RowKit Mem Tr St Swp
open Go.Proofs.YtmmmghpimdfleaaGreatDoor.Own

theorem cells38 {r : Rec} {kv rv : Value} (h : r.hash.length = 32) : (r.cells kv rv)[38]? = some (.int .i64 r.size) := by
  unfold Rec.cells
  have hb : (Lib.byteCells r.hash).length = 32 := by rw [Lib.byteCells_length, h]
  simp [List.getElem?_append, hb]
theorem sum_bound {rs : List Rec} (h : Fit rs) {D : List ByteArray} {want : Int} {s : Swp.At} (w : Swp.Way rs D want s) : 0 ≤ s.freed ∧ s.freed ≤ 1125899906842624 := by
  have h1 := sizes_le h.small s.out
  rw [← w.sum] at h1
  have h2 := w.len
  have h3 := h.len
  omega

set_option maxHeartbeats 8000000 in
set_option maxRecDepth 20000 in
theorem walk {rc st : Nat → BitVec 32} (w : World) (hg : Sum.Gl rc st w) (v : Value) (l : List Rec) (hr : Op.Recs (fun b => b < w.heap.size) w v l) (roots : List ByteArray) (us : List (ByteArray × Int)) (want : Int) (rv uv : Value) (hj : Op.JobAt w [rv, uv, .int .i64 want] roots us want rv uv) (hb : Op.bulkR l + 2 * (bulks roots + Op.bulkU us) ≤ 2097152) :
    Calls Tryz.prog 9 #[v, .agg #[rv, uv, .int .i64 want]] w fun e w' => e = .returned (.bool true) ∧ Below w.heap.size w w' := by
  have HR := Lib.hid hr
  have HG := Lib.hid hg
  have HJ := Lib.hid hj
  have hfit : Fit (stockF rc st [] l) := fit_stock (by omega)
  have hac : Acyc (stockF rc st [] l) := acyc l (by omega)
  obtain ⟨rs, hrs⟩ : ∃ rs, stockF rc st [] l = rs := ⟨_, rfl⟩
  have HRS := Lib.hid hrs
  rw [hrs] at hfit hac
  have HFIT := Lib.hid hfit
  have HAC := Lib.hid hac
  have hbl : Op.bulkR l ≤ 4194304 := by omega
  have HRL := Lib.hid (show roots.length ≤ 1048576 by have := length_bulks roots; omega)
  have HUL := Lib.hid (show us.length ≤ 2097152 by have := Op.bulkU_len us; omega)
  have HUS := Lib.hid (show ∀ x ∈ us, x.1.size ≤ 4194304 ∧ x.2 < 9223372036854775808 from fun x hx => ⟨by have := Op.bulkU_mem hx; omega, hj.cnt x hx⟩)
  have HST := Lib.hid (show ∀ W, Below w.heap.size w W → Strs (fun b => b < W.heap.size) W rv roots from fun W hb => (HJ.out.roots.below hb).sub (fun b h _ => h))
  have HUT := Lib.hid (show ∀ W, Below w.heap.size w W → Uses (fun b => b < W.heap.size) W uv us from fun W hb => (HJ.out.uses.below hb).sub (fun b h _ => h))
  obtain ⟨ao, cap, rfl, _, _, _⟩ := hj.roots
  obtain ⟨ao2, cap2, rfl, _, _, _⟩ := hj.uses
  obtain ⟨ao3, cap3, rfl, _, _, _⟩ := id hr
  clear hr hg hb hfit hac hrs hj
  obtain ⟨rv, hrv⟩ : ∃ x, Value.slice ao roots.length cap = x := ⟨_, rfl⟩
  obtain ⟨uv, huv⟩ : ∃ x, Value.slice ao2 us.length cap2 = x := ⟨_, rfl⟩
  have HRV := Lib.hid hrv
  have HUV := Lib.hid huv
  rw [hrv] at HJ HST ⊢
  rw [huv] at HJ HUT ⊢
  clear hrv huv
  go_enter Tryz.func9, Tryz.ntmps9
  go_wp2_with fail
  refine calls_named fun w0 hw0 => ?_
  obtain ⟨b0, x0⟩ := alloc_fact hw0
  have X0 := Lib.hid (show Bx w0 w.heap.size #[rv, uv, .int .i64 want] 74 from x0)
  have l0 := x0.lt
  clear hw0 x0
  have HR0 := Lib.hid ((HR.out.below b0).mono fun b h => Nat.lt_of_lt_of_le h b0.size)
  refine (stockedC19 rc st _ l w0 (HG.out.below b0) HR0.out hbl).mono ?_
  rintro e w1 ⟨M1, F1, s1, rfl, h1, hMF1, c1⟩
  rw [HRS.out] at h1
  have H1 := Lib.hid h1
  have HM1 := Lib.hid hMF1
  have HX1 := Lib.hid (show ∀ b, M1 b ∨ F1 b → b < w1.heap.size from h1.lt)
  clear h1 hMF1
  go_wp2_with fail
  refine (stockedC19 rc st _ l w1 (HG.out.below (b0.trans (c1.mono b0.size))) ((HR0.out.below c1).mono fun b h => Nat.lt_of_lt_of_le h c1.size) hbl).mono ?_
  rintro e w2 ⟨M2, F2, s2, rfl, h2, hMF2, d2⟩
  rw [HRS.out] at h2
  have H2 := Lib.hid h2
  have HM2 := Lib.hid hMF2
  have HX2 := Lib.hid (show ∀ b, M2 b ∨ F2 b → b < w2.heap.size from h2.lt)
  have c2 := c1.trans (d2.mono c1.size)
  clear h2 hMF2
  go_wp2_with fail
  refine (stockedC19 rc st _ l w2 (HG.out.below (b0.trans (c2.mono b0.size))) ((HR0.out.below c2).mono fun b h => Nat.lt_of_lt_of_le h c2.size) hbl).mono ?_
  rintro e w3 ⟨M3, F3, s3, rfl, h3, hMF3, d3⟩
  rw [HRS.out] at h3
  have H3 := Lib.hid h3
  have HM3 := Lib.hid hMF3
  have c3 := c2.trans (d3.mono c2.size)
  clear h3 hMF3
  go_wp2_with fail
  refine (awakeC19 rc st w3 (HG.out.below (b0.trans (c3.mono b0.size)))).mono ?_
  rintro e w4 ⟨rfl, d4⟩
  have c4 := c3.trans (d4.mono c3.size)
  have HZ := Lib.hid (show w0.heap.size ≤ w1.heap.size ∧ w1.heap.size ≤ w2.heap.size ∧ w2.heap.size ≤ w3.heap.size ∧ w3.heap.size ≤ w4.heap.size from ⟨c1.size, d2.size, d3.size, d4.size⟩)
  have A1 := Lib.hid ((((H1.out.below d2).below d3).below d4))
  have A2 := Lib.hid (((H2.out.below d3).below d4))
  have A3 := Lib.hid ((H3.out.below d4))
  have GX := Lib.hid (show ∀ W, Below w0.heap.size w0 W → W.cell? ⟨w.heap.size, 0, none⟩ = some rv ∧ W.cell? ⟨w.heap.size, 1, none⟩ = some uv ∧ W.cell? ⟨w.heap.size, 2, none⟩ = some (.int .i64 want) from fun W hb => by
    have h := X0.out.below hb
    exact ⟨h.cell 0, h.cell 1, h.cell 2⟩)
  clear d2 d3 d4
  obtain ⟨g0, g1, g2⟩ := GX.out w4 c4
  go_wp2_with fail
  clear g0 g1 g2
  have BW4 := b0.trans (c4.mono b0.size)
  refine (collectF M3 F3 s3 rs rv roots uv us 0 w4 A3.out HFIT.out (HST.out w4 BW4) HRL.out (HUT.out w4 BW4) HUL.out HUS.out).mono ?_
  rintro e w5 ⟨f3, v3, N3, hfin3, rfl, hrow3, his3, kp3, hsub3⟩
  have e3 := fin_zero (Int.le_refl _) hfin3
  rw [show f3.freed = 0 by rw [e3]]
  rw [show f3.out = [] by rw [e3]] at hrow3
  rw [show f3.rs = rs by rw [e3]] at his3
  obtain ⟨ax, cx, rfl⟩ := Tab.own_len hrow3
  have c5 := c4.trans (kp3.below c4.size (fun i hi hm => by have h1 := HM3.out i (.inl hm); have h2 := HZ.out; omega))
  have z5 : w4.heap.size ≤ w5.heap.size := kp3.size
  have U5 := Lib.hid (show Is N3 F3 w5 s3 rs from his3)
  have T5 := Lib.hid (A2.out.kp kp3 (fun b hb hm => by have h1 := HM3.out b (.inl hm); have h2 := HX2.out b (.inl hb); omega) (fun b hb hm => by have h1 := HM3.out b (.inl hm); have h2 := HX2.out b (.inr hb); omega))
  have S5 := Lib.hid (A1.out.kp kp3 (fun b hb hm => by have h1 := HM3.out b (.inl hm); have h2 := HX1.out b (.inl hb); have h3 := HZ.out; omega) (fun b hb hm => by have h1 := HM3.out b (.inl hm); have h2 := HX1.out b (.inr hb); have h3 := HZ.out; omega))
  clear hfin3 hrow3 his3 kp3 hsub3 e3
  go_wp2_with fail
  refine (allC M2 F2 s2 rs w5 T5.out HFIT.out.len HFIT.out.bulk).mono ?_
  rintro e w6 ⟨v6, rfl, hrec6, d6⟩
  have R6 := Lib.hid hrec6
  obtain ⟨a6, k6, rfl, _, _, _⟩ := hrec6
  have c6 := c5.trans (d6.mono c5.size)
  go_wp2_with fail
  refine (wholeC N3 F3 _ s3 rs _ rs w6 (U5.out.below d6) HFIT.out.len HFIT.out.bulk R6.out rfl (fun r hr => Sp.get_of_mem HFIT.out.rise hr)).mono ?_
  rintro e w7 ⟨rfl, d7⟩
  have c7 := c6.trans (d7.mono c6.size)
  have z7 : w4.heap.size ≤ w7.heap.size := Nat.le_trans z5 (Nat.le_trans d6.size d7.size)
  have T7 := Lib.hid ((T5.out.below d6).below d7)
  have S7 := Lib.hid ((S5.out.below d6).below d7)
  clear d6 d7
  obtain ⟨g0, g1, g2⟩ := GX.out w7 c7
  go_wp2_with fail
  clear g0 g1 g2
  have BW7 := b0.trans (c7.mono b0.size)
  refine (collectF M1 F1 s1 rs rv roots uv us want w7 S7.out HFIT.out (HST.out w7 BW7) HRL.out (HUT.out w7 BW7) HUL.out HUS.out).mono ?_
  rintro e w8 ⟨f1, v1, N1, hfin1, rfl, hrow1, his1, kp1, hsub1⟩
  have hway1 := fin_way HFIT.out.rise hfin1
  have HF1 := Lib.hid (HFIT.out.way hway1)
  have hsb := sum_bound HFIT.out hway1
  have HW1 := Lib.hid hway1
  have HFN1 := Lib.hid hfin1
  have c8 := c7.trans (kp1.below c7.size (fun i hi hm => by have h1 := HM1.out i (.inl hm); have h2 := HZ.out; omega))
  have z8 : w4.heap.size ≤ w8.heap.size := Nat.le_trans z7 kp1.size
  have S8 := Lib.hid his1
  have T8 := Lib.hid (T7.out.kp kp1 (fun b hb hm => by have h1 := HX1.out b (.inl hm); have h2 := HM2.out b (.inl hb); omega) (fun b hb hm => by have h1 := HX1.out b (.inl hm); have h2 := HM2.out b (.inr hb); omega))
  obtain ⟨a1, k1, rfl⟩ := Tab.own_len hrow1
  have ROW8 := Lib.hid hrow1
  obtain ⟨fr, hfr⟩ : ∃ fr, f1.freed = fr := ⟨_, rfl⟩
  have HFR := Lib.hid hfr
  rw [hfr] at hsb ⊢
  clear hfin1 hrow1 his1 kp1 hsub1 hway1 hfr
  obtain ⟨n1, hn1⟩ : ∃ n1, f1.out.length = n1 := ⟨_, rfl⟩
  have HN1 := Lib.hid hn1
  have hn1l : n1 ≤ 1048576 := by rw [← hn1]; exact Nat.le_trans HW1.out.len HFIT.out.len
  rw [hn1] at ROW8 ⊢
  clear hn1
  obtain ⟨fr0, fr9⟩ := hsb
  obtain ⟨g0, g1, g2⟩ := GX.out w8 c8
  by_cases hfw : fr < want
  case pos =>
    have hfd : decide (fr < want) = true := decide_eq_true hfw
    have hd0 : deadL f1.rs roots = [] := (none_dead HFIT.out.rise HAC.out HFIT.out.closed HW1.out (fin_end HFN1.out (by rw [HFR.out]; exact hfw))).1
    have BW8 := b0.trans (c8.mono b0.size)
    go_wp2_with fail
    clear g0 g1 g2
    refine (deadF N1 F1 s1 f1.rs rv roots w8 S8.out HF1.out (HST.out w8 BW8) HRL.out).mono ?_
    rintro e w8 ⟨v9, rfl, hrow9, d8⟩
    rw [hd0] at hrow9
    obtain ⟨a9, k9, rfl⟩ := Tab.own_len hrow9
    have c8 := c8.trans (d8.mono c8.size)
    have z8 := Nat.le_trans z8 d8.size
    have T8 := Lib.hid (T8.out.below d8)
    have ROW8 := Lib.hid (Copy.own_below ROW8.out d8)
    clear hrow9 hd0 d8
    cases n1 with
    | zero =>
      obtain ⟨g0, g1, g2⟩ := GX.out w8 c8
      go_wp2_with fail
      clear g0 g1 g2
      have BWt := b0.trans (c8.mono b0.size)
      refine (liveF M2 F2 s2 rs rv roots w8 T8.out HFIT.out (HST.out w8 BWt) HRL.out).mono ?_
      rintro e x1 ⟨L, ⟨vL, rfl, hoL, e1⟩, hris, hmem⟩
      have cx1 := c8.trans (e1.mono c8.size)
      have bx1 := b0.trans (cx1.mono b0.size)
      obtain ⟨aL, kL, rfl⟩ := Tab.own_len hoL
      have ROWL := Lib.hid hoL
      have zx1 := Nat.le_trans z8 e1.size
      have TX := Lib.hid (T8.out.below e1)
      have HLV := Lib.hid (show Srt.Ris L ∧ ∀ p, p ∈ L ↔ Lives rs roots p from ⟨hris, hmem⟩)
      clear hoL hris hmem
      obtain ⟨g0, g1, g2⟩ := GX.out x1 cx1
      go_wp2_with fail
      clear g0 g1 g2
      refine (collectF M2 F2 s2 rs rv roots uv us 4611686018427387904 x1 TX.out HFIT.out (HST.out x1 bx1) HRL.out (HUT.out x1 bx1) HUL.out HUS.out).mono ?_
      rintro e x2 ⟨f2, v2, N2, hfin2, rfl, hrow2, his2, kp2, hsub2⟩
      have hway2 := fin_way HFIT.out.rise hfin2
      have HFI2 := Lib.hid (HFIT.out.way hway2)
      have hnd := none_dead HFIT.out.rise HAC.out HFIT.out.closed hway2 (fin_end hfin2 (by have := (sum_bound HFIT.out hway2).2; omega))
      have hL2 : f2.rs.map Rec.path = L := Srt.ris_ext (ris_paths HFI2.out.rise) HLV.out.1 (fun x => by rw [HLV.out.2, hnd.2, List.mem_map])
      have hlen2 : f2.rs.length = L.length := by rw [← hL2, List.length_map]
      have hlv2 : ∀ p, Lives f2.rs roots p ↔ Lives rs roots p := fun p => by rw [hway2.left]; exact lives_wo HFIT.out.closed (fun q hq => (mem_dead.1 (hway2.mem q hq).1).2) p
      have hml : (f2.rs.map fun r => Value.string r.path) = L.map Value.string := by rw [← hL2, List.map_map]; rfl
      have HL := Lib.hid (show (f2.rs.map fun r => Value.string r.path) = L.map Value.string ∧ f2.rs.length = L.length ∧ (∀ p, Lives f2.rs roots p ↔ Lives rs roots p) ∧ deadL f2.rs roots = [] from ⟨hml, hlen2, hlv2, hnd.1⟩)
      obtain ⟨a2, k2, rfl⟩ := Tab.own_len hrow2
      have cx2 := cx1.trans (kp2.below cx1.size (fun i hi hm => by have h1 := HM2.out i (.inl hm); have h2 := HZ.out; omega))
      have ROWL2 := Lib.hid (Tab.own_kp ROWL.out kp2 (fun b hb hm => by have h1 := HX2.out b (.inl hm); have h2 := (ROWL.out.lt b hb).1; have h3 := HZ.out; omega))
      have I2 := Lib.hid his2
      clear hfin2 hrow2 his2 kp2 hsub2 hway2 hnd hL2 hlen2 hlv2 hml
      go_wp2_with fail
      refine (pathsC N2 F2 s2 f2.rs x2 I2.out (by have := HFI2.out.len; omega)).mono ?_
      rintro e x3 ⟨vp, rfl, hop, e3⟩
      rw [HL.out.1, HL.out.2.1] at hop
      have cx3 := cx2.trans (e3.mono cx2.size)
      have hr1 : Texts.Reads x3 vp L := Texts.Reads.of_own hop
      have hr2 := Texts.Reads.of_own (Copy.own_below ROWL2.out e3)
      have HRL2 := Lib.hid hr2
      obtain ⟨ap, kq, rfl⟩ := Tab.own_len hop
      clear hop
      go_wp2_with fail
      refine (Texts.texts x3 _ _ L L hr1 hr2).mono ?_
      rintro e x4 ⟨rfl, sm⟩
      rw [show decide (L = L) = true from decide_eq_true rfl]
      have e4 : Below x3.heap.size x3 x4 := sm.below (Below.refl _ _)
      have cx4 := cx3.trans (e4.mono cx3.size)
      have bx4 := b0.trans (cx4.mono b0.size)
      have I4 := Lib.hid ((I2.out.below e3).below e4)
      clear hr1 hr2 sm
      obtain ⟨g0, g1, g2⟩ := GX.out x4 cx4
      go_wp2_with fail
      clear g0 g1 g2
      refine (liveF N2 F2 s2 f2.rs rv roots x4 I4.out HFI2.out (HST.out x4 bx4) HRL.out).mono ?_
      rintro e x5 ⟨L', ⟨v5, rfl, ho5, e5⟩, hris5, hmem5⟩
      obtain rfl : L' = L := Srt.ris_ext hris5 HLV.out.1 (fun x => by rw [hmem5, HL.out.2.2.1, HLV.out.2])
      have cx5 := cx4.trans (e5.mono cx4.size)
      have hr1 := Texts.Reads.of_own ho5
      have hr2 := (HRL2.out.below e4).below e5
      obtain ⟨a5, k5, rfl⟩ := Tab.own_len ho5
      clear ho5 hris5 hmem5
      go_wp2_with fail
      refine (Texts.texts x5 _ _ L' L' hr1 hr2).mono ?_
      rintro e x6 ⟨rfl, sm⟩
      rw [show decide (L' = L') = true from decide_eq_true rfl]
      have e6 : Below x5.heap.size x5 x6 := sm.below (Below.refl _ _)
      have cx6 := cx5.trans (e6.mono cx5.size)
      have bx6 := b0.trans (cx6.mono b0.size)
      have I6 := Lib.hid ((I4.out.below e5).below e6)
      clear hr1 hr2 sm
      obtain ⟨g0, g1, g2⟩ := GX.out x6 cx6
      go_wp2_with fail
      clear g0 g1 g2
      refine (deadF N2 F2 s2 f2.rs rv roots x6 I6.out HFI2.out (HST.out x6 bx6) HRL.out).mono ?_
      rintro e x7 ⟨v7, rfl, ho7, e7⟩
      rw [HL.out.2.2.2] at ho7
      obtain ⟨a7, k7, rfl⟩ := Tab.own_len ho7
      have cx7 := cx6.trans (e7.mono cx6.size)
      clear ho7
      go_wp2_with fail
      go_ret
      exact ⟨rfl, b0.trans (cx7.mono b0.size)⟩
    | succ n1 =>
      have hne : f1.out ≠ [] := fun e => by have := HN1.out; rw [e] at this; cases this
      obtain ⟨o, p, hop⟩ : ∃ o p, f1.out = o ++ [p] := ⟨_, _, (List.dropLast_concat_getLast hne).symm⟩
      have hlast := HW1.out.last o p hop
      have hmem := (HW1.out.mem p (by rw [hop]; simp)).2
      obtain ⟨r, hrp⟩ : ∃ r, Sp.get Rec.path rs p = some r := Option.isSome_iff_exists.1 hmem
      have hsz : sizeP rs p = r.size := by unfold sizeP; rw [hrp]
      have hrs := HFIT.out.small r (Sp.get_some hrp).1
      rw [hsz, HFR.out] at hlast
      obtain ⟨z, hz⟩ : ∃ z, r.size = z := ⟨_, rfl⟩
      rw [hz] at hlast hrs
      have HZZ := Lib.hid hz
      have HRP := Lib.hid hrp
      have hge : decide (want ≤ fr - z) = false := decide_eq_false (by omega)
      have hwz : IntKind.i64.wrap (fr - z) = fr - z := by rw [IntKind.wrap_i64]; omega
      have hw1 : IntKind.i64.wrap (n1 : Int) = (n1 : Int) := by rw [IntKind.wrap_i64]; omega
      have hn0 : (0 : Int) ≤ (n1 : Int) := Int.natCast_nonneg _
      have hrow := ROW8.out
      rw [hop] at hrow
      obtain ⟨g, k1', hv⟩ := ownsRow_succ hrow
      injection hv with ha1 hb1 hc1
      subst ha1
      clear hb1 hc1
      have hcell := (own_pop hrow).2.2
      have hcl := World.block_lt_of_cell? w8 _ hcell
      have hS3 : ∀ w', Below w8.heap.size w8 w' → w'.cell? ⟨g, n1, none⟩ = some (.string p) := fun w' hb => (hb.cell (p := ⟨g, n1, none⟩) hcl).trans hcell
      have hS0 := hS3 w8.drew (Below.refl _ w8).drew
      have hget := fun w' (hb : Below w8.heap.size w8 w') => storeOffers.getSome w' (T8.out.below hb) (by have := HFIT.out.len; omega) HFIT.out.bulk HRP.out
      have hlt1 : (n1 : Int) < (n1 : Int) + 1 := by omega
      clear hne hop hmem hrp hsz hz hrow hlast
      obtain ⟨g0, g1, g2⟩ := GX.out w8 c8
      go_wp2_with fail
      clear g0 g1 g2
      refine wp_region_held_drew (S := fun w' => w'.cell? ⟨g, n1, none⟩ = some (.string p)) (by kernel_rfl) hS0 (fun hHeld => ?_)
      refine wpAnyH_take (i := 0) (v := ?_) rfl (by kernel_rfl) (by kernel_rfl) (by kernel_rfl) (fun _ _ _ h => h) (Or.inl ⟨by rfl, ?_⟩) (by assumption) ?_
      rotate_left
      · (intro w hSw; go_simp; try with_reducible rfl)
      simp only [Act.put, List.setIfInBounds_toArray, List.set_cons_zero, List.set_cons_succ]
      refine wpAnyH_take (i := 1) (v := ?_) rfl (by kernel_rfl) (by kernel_rfl) (by kernel_rfl) (fun _ _ _ h => h) (Or.inl ⟨by rfl, ?_⟩) (by assumption) ?_
      rotate_left
      · (intro w hSw; go_simp; try with_reducible rfl)
      simp only [Act.put, List.setIfInBounds_toArray, List.set_cons_zero, List.set_cons_succ]
      refine wpAnyH_take (i := 2) (v := ?_) rfl (by kernel_rfl) (by kernel_rfl) (by kernel_rfl) (fun _ _ _ h => h) (Or.inl ⟨by rfl, ?_⟩) (by assumption) ?_
      rotate_left
      · (intro w hSw; go_simp; try with_reducible rfl)
      simp only [Act.put, List.setIfInBounds_toArray, List.set_cons_zero, List.set_cons_succ]
      refine wpAnyH_take (i := 3) (v := ?_) rfl (by kernel_rfl) (by kernel_rfl) (by kernel_rfl) (fun _ _ _ h => h) (Or.inl ⟨by rfl, ?_⟩) (by assumption) ?_
      rotate_left
      · (intro w hSw; go_simp; try with_reducible rfl)
      simp only [Act.put, List.setIfInBounds_toArray, List.set_cons_zero, List.set_cons_succ]
      refine wpAnyH_take (i := 4) (v := ?_) rfl (by kernel_rfl) (by kernel_rfl) (by kernel_rfl) (fun _ _ _ h => h) (Or.inl ⟨by rfl, ?_⟩) (by assumption) ?_
      rotate_left
      · (intro w hSw; go_simp; try with_reducible rfl)
      simp only [Act.put, List.setIfInBounds_toArray, List.set_cons_zero, List.set_cons_succ]
      refine wpAnyH_take (i := 5) (v := ?_) rfl (by kernel_rfl) (by kernel_rfl) (by kernel_rfl) (fun _ _ _ h => h) (Or.inl ⟨by rfl, ?_⟩) (by assumption) ?_
      rotate_left
      · (intro w hSw; go_simp; try with_reducible rfl)
      simp only [Act.put, List.setIfInBounds_toArray, List.set_cons_zero, List.set_cons_succ]
      refine wpAnyH_take (i := 6) (v := ?_) rfl (by kernel_rfl) (by kernel_rfl) (by kernel_rfl) (fun _ _ _ h => h) (Or.inl ⟨by rfl, ?_⟩) (by assumption) ?_
      rotate_left
      · (intro w hSw; go_simp; try with_reducible rfl)
      simp only [Act.put, List.setIfInBounds_toArray, List.set_cons_zero, List.set_cons_succ]
      refine wpAnyH_take (i := 7) (v := ?_) rfl (by kernel_rfl) (by kernel_rfl) (by kernel_rfl) (fun _ _ _ h => h) (Or.inl ⟨by rfl, ?_⟩) (by assumption) ?_
      rotate_left
      · (intro w hSw; go_simp; try with_reducible rfl)
      simp only [Act.put, List.setIfInBounds_toArray, List.set_cons_zero, List.set_cons_succ]
      refine wpAnyH_take (i := 8) (v := ?_) rfl (by kernel_rfl) (by kernel_rfl) (by kernel_rfl) (fun _ _ _ h => h) (Or.inl ⟨by rfl, ?_⟩) (by assumption) ?_
      rotate_left
      · (intro w hSw; go_simp; try with_reducible rfl)
      simp only [Act.put, List.setIfInBounds_toArray, List.set_cons_zero, List.set_cons_succ]
      refine wpAnyH_ready (rs := [9, 13]) (by kernel_rfl) (by simp) ?_
      refine AllReadyH.cons rfl (fun K hK => ?armAp) (AllReadyH.cons rfl (fun K hK => ?armBp) AllReadyH.nil)
      case' armAp =>
        go_simp
        refine (hget w8.drew (Below.refl _ w8).drew).mono ?_
        rintro e wg3 ⟨oc, hol, hoo, rfl, b3, hrec⟩
        have b3' : Below w8.heap.size w8 wg3 := Copy.below_undrew b3
        refine hK.out _ _ (hS3 wg3 b3') (fun hHeld => ?_)
        clear hK K
        refine wpAnyH_take (i := 10) (v := ?_) rfl (by kernel_rfl) (by kernel_rfl) (by kernel_rfl) (fun _ _ _ h => h) (Or.inl ⟨by rfl, ?_⟩) (by assumption) ?_
        rotate_left
        · (intro w hSw; go_simp; try with_reducible rfl)
        simp only [Act.put, List.setIfInBounds_toArray, List.set_cons_zero, List.set_cons_succ]
        refine wpAnyH_take (i := 11) (v := ?_) rfl (by kernel_rfl) (by kernel_rfl) (by kernel_rfl) (fun _ _ _ h => h) (Or.inl ⟨by rfl, ?_⟩) (by assumption) ?_
        rotate_left
        · (intro w hSw; go_simp; try with_reducible rfl)
        simp only [Act.put, List.setIfInBounds_toArray, List.set_cons_zero, List.set_cons_succ]
        refine wpAnyH_take (i := 12) (v := ?_) rfl (by kernel_rfl) (by kernel_rfl) (by kernel_rfl) (fun _ _ _ h => h) (Or.inl ⟨by rfl, ?_⟩) (by assumption) ?_
        rotate_left
        · (intro w hSw; go_simp; try with_reducible rfl)
        simp only [Act.put, List.setIfInBounds_toArray, List.set_cons_zero, List.set_cons_succ]
        refine wpAnyH_ready (rs := [13]) (by kernel_rfl) (by simp) ?_
        refine AllReadyH.cons rfl (fun K hK => ?_) AllReadyH.nil
        go_simp
        change K _ (wg3.alloc (.cells Ins.zeroRec.cells 31))
        obtain ⟨WN, hWN⟩ : ∃ W, wg3.alloc (.cells Ins.zeroRec.cells 31) = W := ⟨_, rfl⟩
        obtain ⟨bN3, xN⟩ := alloc_fact hWN
        have bN : Below w8.heap.size w8 WN := b3'.trans (bN3.mono b3'.size)
        rw [hWN]
        refine hK.out _ _ (hS3 WN bN) (fun hHeld => ?_)
        have hrecN := hrec.below bN3
        have nbl : w8.heap.size ≤ wg3.heap.size := b3'.size
        have hN : RecAt (fun b => b ≠ wg3.heap.size) WN oc r := hrecN.sub (fun b _ h => by have := h.2; omega)
        obtain ⟨nb, hnb2⟩ : ∃ nb, wg3.heap.size = nb := ⟨_, rfl⟩
        rw [hnb2] at xN nbl hN ⊢
        clear hK K hnb2 hWN bN3 hrec b3' b3
      case' armBp =>
        go_simp
        change K _ (w8.alloc (.cells Ins.zeroRec.cells 31)).drew
        obtain ⟨wg4, hwg4⟩ : ∃ W, (w8.alloc (.cells Ins.zeroRec.cells 31)).drew = W := ⟨_, rfl⟩
        have x4 : Bx wg4 w8.heap.size Ins.zeroRec.cells 31 := by rw [← hwg4]; exact Bx.new w8 Ins.zeroRec.cells 31
        have b4 : Below w8.heap.size w8 wg4 := by rw [← hwg4]; exact ((Below.refl _ w8).alloc (Nat.le_refl _) _).drew
        rw [hwg4]
        refine hK.out _ _ (hS3 wg4 b4) (fun hHeld => ?_)
        obtain ⟨nb, hnb2⟩ : ∃ nb, w8.heap.size = nb := ⟨_, rfl⟩
        rw [hnb2]
        clear hK K hwg4
        refine wpAnyH_ready (rs := [9]) (by kernel_rfl) (by simp) ?_
        refine AllReadyH.cons rfl (fun K hK => ?_) AllReadyH.nil
        go_simp
        refine (hget wg4 b4).mono ?_
        rintro e WN ⟨oc, hol, hoo, rfl, b5, hrecN⟩
        have bN : Below w8.heap.size w8 WN := b4.trans (b5.mono b4.size)
        refine hK.out _ _ (hS3 WN bN) (fun hHeld => ?_)
        clear hK K
        refine wpAnyH_take (i := 10) (v := ?_) rfl (by kernel_rfl) (by kernel_rfl) (by kernel_rfl) (fun _ _ _ h => h) (Or.inl ⟨by rfl, ?_⟩) (by assumption) ?_
        rotate_left
        · (intro w hSw; go_simp; try with_reducible rfl)
        simp only [Act.put, List.setIfInBounds_toArray, List.set_cons_zero, List.set_cons_succ]
        refine wpAnyH_take (i := 11) (v := ?_) rfl (by kernel_rfl) (by kernel_rfl) (by kernel_rfl) (fun _ _ _ h => h) (Or.inl ⟨by rfl, ?_⟩) (by assumption) ?_
        rotate_left
        · (intro w hSw; go_simp; try with_reducible rfl)
        simp only [Act.put, List.setIfInBounds_toArray, List.set_cons_zero, List.set_cons_succ]
        refine wpAnyH_take (i := 12) (v := ?_) rfl (by kernel_rfl) (by kernel_rfl) (by kernel_rfl) (fun _ _ _ h => h) (Or.inl ⟨by rfl, ?_⟩) (by assumption) ?_
        rotate_left
        · (intro w hSw; go_simp; try with_reducible rfl)
        simp only [Act.put, List.setIfInBounds_toArray, List.set_cons_zero, List.set_cons_succ]
        have xN := x4.below b5
        have nbl : w8.heap.size ≤ nb := by omega
        have l4 := x4.lt
        have hN : RecAt (fun b => b ≠ w8.heap.size) WN oc r := hrecN.sub (fun b _ h => by have := h.1; omega)
        rw [hnb2] at xN hN
        clear hnb2 x4 b4 b5 l4
      all_goals
        refine wpAnyH_ready (rs := [14]) (by kernel_rfl) (by simp) ?_
        refine AllReadyH.cons rfl (fun K hK => ?_) AllReadyH.nil
        rw [if_pos (by rfl)]
        refine wp_store_mid 31 _ _ (by rfl) nb 0 oc.toArray (by rfl) (by rfl) ?_ ?_ ?_ ?_
        · exact xN.there oc.toArray.size (by rw [show oc.toArray.size = 39 by simpa using hol]; rfl)
        · rw [List.size_toArray, hol]; kernel_rfl
        · exact all_oneCell_toArray hoo
        refine Mem.named ?_
        intro w9 hw9
        have hW2 : WN.setCells nb 0 oc = w9 := hw9
        have bW : Below w8.heap.size w8 w9 := by rw [← hW2]; exact Tab.below_setCells nbl _ _ bN (Nat.le_refl _)
        have rW : w9.rangeAt nb 0 oc := by rw [← hW2]; exact World.rangeAt_setCells_same _ _ _ _ (xN.there _ (by rw [hol]; rfl))
        have kW : Kp (fun b => b = nb) WN w9 := by rw [← hW2]; exact kp_setCells (M := fun b => b = nb) (fun _ => rfl) _ _ (Kp.refl _ WN)
        have hWR : RecAt (fun b => b ≠ nb) w9 oc r := hN.ag (Ag.of_kp kW (fun q _ hq e => hq e))
        refine hK.out _ _ (hS3 w9 bW) (fun hHeld => ?_)
        clear hK K hw9 hW2
        refine wpAnyH_take (i := 15) (v := ?_) rfl (by kernel_rfl) (by kernel_rfl) (by kernel_rfl) (fun _ _ _ h => h) (Or.inl ⟨by rfl, ?_⟩) (by assumption) ?_
        rotate_left
        · (intro w hSw; go_simp; try with_reducible rfl)
        simp only [Act.put, List.setIfInBounds_toArray, List.set_cons_zero, List.set_cons_succ]
        refine wpAnyH_done (by kernel_rfl) ?_ _
        clear hHeld
        have c9 := c8.trans (bW.mono c8.size)
        have z9 := Nat.le_trans z8 bW.size
        have T9 := Lib.hid (T8.out.below bW)
        have k38 : w9.cell? ⟨nb, 38, none⟩ = some (.int .i64 z) := by
          obtain ⟨kv, rv', e1, e2, _, _⟩ := hWR
          have h := rW 38 (.int .i64 z) (by rw [e1, cells38 e2, HZZ.out])
          simpa using h
        obtain ⟨g0, g1, g2⟩ := GX.out w9 c9
        clear hS0 hS3 hget hWR hrecN hN xN kW rW
        go_wp2_with fail
        clear g0 g1 g2 k38
        obtain ⟨g0, g1, g2⟩ := GX.out w9 c9
        go_wp2_with fail
        clear g0 g1 g2
        have BWt := b0.trans (c9.mono b0.size)
        refine (liveF M2 F2 s2 rs rv roots w9 T9.out HFIT.out (HST.out w9 BWt) HRL.out).mono ?_
        rintro e x1 ⟨L, ⟨vL, rfl, hoL, e1⟩, hris, hmem⟩
        have cx1 := c9.trans (e1.mono c9.size)
        have bx1 := b0.trans (cx1.mono b0.size)
        obtain ⟨aL, kL, rfl⟩ := Tab.own_len hoL
        have ROWL := Lib.hid hoL
        have zx1 := Nat.le_trans z9 e1.size
        have TX := Lib.hid (T9.out.below e1)
        have HLV := Lib.hid (show Srt.Ris L ∧ ∀ p, p ∈ L ↔ Lives rs roots p from ⟨hris, hmem⟩)
        clear hoL hris hmem
        obtain ⟨g0, g1, g2⟩ := GX.out x1 cx1
        go_wp2_with fail
        clear g0 g1 g2
        refine (collectF M2 F2 s2 rs rv roots uv us 4611686018427387904 x1 TX.out HFIT.out (HST.out x1 bx1) HRL.out (HUT.out x1 bx1) HUL.out HUS.out).mono ?_
        rintro e x2 ⟨f2, v2, N2, hfin2, rfl, hrow2, his2, kp2, hsub2⟩
        have hway2 := fin_way HFIT.out.rise hfin2
        have HFI2 := Lib.hid (HFIT.out.way hway2)
        have hnd := none_dead HFIT.out.rise HAC.out HFIT.out.closed hway2 (fin_end hfin2 (by have := (sum_bound HFIT.out hway2).2; omega))
        have hL2 : f2.rs.map Rec.path = L := Srt.ris_ext (ris_paths HFI2.out.rise) HLV.out.1 (fun x => by rw [HLV.out.2, hnd.2, List.mem_map])
        have hlen2 : f2.rs.length = L.length := by rw [← hL2, List.length_map]
        have hlv2 : ∀ p, Lives f2.rs roots p ↔ Lives rs roots p := fun p => by rw [hway2.left]; exact lives_wo HFIT.out.closed (fun q hq => (mem_dead.1 (hway2.mem q hq).1).2) p
        have hml : (f2.rs.map fun r => Value.string r.path) = L.map Value.string := by rw [← hL2, List.map_map]; rfl
        have HL := Lib.hid (show (f2.rs.map fun r => Value.string r.path) = L.map Value.string ∧ f2.rs.length = L.length ∧ (∀ p, Lives f2.rs roots p ↔ Lives rs roots p) ∧ deadL f2.rs roots = [] from ⟨hml, hlen2, hlv2, hnd.1⟩)
        obtain ⟨a2, k2, rfl⟩ := Tab.own_len hrow2
        have cx2 := cx1.trans (kp2.below cx1.size (fun i hi hm => by have h1 := HM2.out i (.inl hm); have h2 := HZ.out; omega))
        have ROWL2 := Lib.hid (Tab.own_kp ROWL.out kp2 (fun b hb hm => by have h1 := HX2.out b (.inl hm); have h2 := (ROWL.out.lt b hb).1; have h3 := HZ.out; omega))
        have I2 := Lib.hid his2
        clear hfin2 hrow2 his2 kp2 hsub2 hway2 hnd hL2 hlen2 hlv2 hml
        go_wp2_with fail
        refine (pathsC N2 F2 s2 f2.rs x2 I2.out (by have := HFI2.out.len; omega)).mono ?_
        rintro e x3 ⟨vp, rfl, hop, e3⟩
        rw [HL.out.1, HL.out.2.1] at hop
        have cx3 := cx2.trans (e3.mono cx2.size)
        have hr1 : Texts.Reads x3 vp L := Texts.Reads.of_own hop
        have hr2 := Texts.Reads.of_own (Copy.own_below ROWL2.out e3)
        have HRL2 := Lib.hid hr2
        obtain ⟨ap, kq, rfl⟩ := Tab.own_len hop
        clear hop
        go_wp2_with fail
        refine (Texts.texts x3 _ _ L L hr1 hr2).mono ?_
        rintro e x4 ⟨rfl, sm⟩
        rw [show decide (L = L) = true from decide_eq_true rfl]
        have e4 : Below x3.heap.size x3 x4 := sm.below (Below.refl _ _)
        have cx4 := cx3.trans (e4.mono cx3.size)
        have bx4 := b0.trans (cx4.mono b0.size)
        have I4 := Lib.hid ((I2.out.below e3).below e4)
        clear hr1 hr2 sm
        obtain ⟨g0, g1, g2⟩ := GX.out x4 cx4
        go_wp2_with fail
        clear g0 g1 g2
        refine (liveF N2 F2 s2 f2.rs rv roots x4 I4.out HFI2.out (HST.out x4 bx4) HRL.out).mono ?_
        rintro e x5 ⟨L', ⟨v5, rfl, ho5, e5⟩, hris5, hmem5⟩
        obtain rfl : L' = L := Srt.ris_ext hris5 HLV.out.1 (fun x => by rw [hmem5, HL.out.2.2.1, HLV.out.2])
        have cx5 := cx4.trans (e5.mono cx4.size)
        have hr1 := Texts.Reads.of_own ho5
        have hr2 := (HRL2.out.below e4).below e5
        obtain ⟨a5, k5, rfl⟩ := Tab.own_len ho5
        clear ho5 hris5 hmem5
        go_wp2_with fail
        refine (Texts.texts x5 _ _ L' L' hr1 hr2).mono ?_
        rintro e x6 ⟨rfl, sm⟩
        rw [show decide (L' = L') = true from decide_eq_true rfl]
        have e6 : Below x5.heap.size x5 x6 := sm.below (Below.refl _ _)
        have cx6 := cx5.trans (e6.mono cx5.size)
        have bx6 := b0.trans (cx6.mono b0.size)
        have I6 := Lib.hid ((I4.out.below e5).below e6)
        clear hr1 hr2 sm
        obtain ⟨g0, g1, g2⟩ := GX.out x6 cx6
        go_wp2_with fail
        clear g0 g1 g2
        refine (deadF N2 F2 s2 f2.rs rv roots x6 I6.out HFI2.out (HST.out x6 bx6) HRL.out).mono ?_
        rintro e x7 ⟨v7, rfl, ho7, e7⟩
        rw [HL.out.2.2.2] at ho7
        obtain ⟨a7, k7, rfl⟩ := Tab.own_len ho7
        have cx7 := cx6.trans (e7.mono cx6.size)
        clear ho7
        go_wp2_with fail
        go_ret
        exact ⟨rfl, b0.trans (cx7.mono b0.size)⟩
  case neg =>
    have hfd : decide (fr < want) = false := decide_eq_false hfw
    clear g0 g1 g2
    cases n1 with
    | zero =>
      obtain ⟨g0, g1, g2⟩ := GX.out w8 c8
      go_wp2_with fail
      clear g0 g1 g2
      have BWt := b0.trans (c8.mono b0.size)
      refine (liveF M2 F2 s2 rs rv roots w8 T8.out HFIT.out (HST.out w8 BWt) HRL.out).mono ?_
      rintro e x1 ⟨L, ⟨vL, rfl, hoL, e1⟩, hris, hmem⟩
      have cx1 := c8.trans (e1.mono c8.size)
      have bx1 := b0.trans (cx1.mono b0.size)
      obtain ⟨aL, kL, rfl⟩ := Tab.own_len hoL
      have ROWL := Lib.hid hoL
      have zx1 := Nat.le_trans z8 e1.size
      have TX := Lib.hid (T8.out.below e1)
      have HLV := Lib.hid (show Srt.Ris L ∧ ∀ p, p ∈ L ↔ Lives rs roots p from ⟨hris, hmem⟩)
      clear hoL hris hmem
      obtain ⟨g0, g1, g2⟩ := GX.out x1 cx1
      go_wp2_with fail
      clear g0 g1 g2
      refine (collectF M2 F2 s2 rs rv roots uv us 4611686018427387904 x1 TX.out HFIT.out (HST.out x1 bx1) HRL.out (HUT.out x1 bx1) HUL.out HUS.out).mono ?_
      rintro e x2 ⟨f2, v2, N2, hfin2, rfl, hrow2, his2, kp2, hsub2⟩
      have hway2 := fin_way HFIT.out.rise hfin2
      have HFI2 := Lib.hid (HFIT.out.way hway2)
      have hnd := none_dead HFIT.out.rise HAC.out HFIT.out.closed hway2 (fin_end hfin2 (by have := (sum_bound HFIT.out hway2).2; omega))
      have hL2 : f2.rs.map Rec.path = L := Srt.ris_ext (ris_paths HFI2.out.rise) HLV.out.1 (fun x => by rw [HLV.out.2, hnd.2, List.mem_map])
      have hlen2 : f2.rs.length = L.length := by rw [← hL2, List.length_map]
      have hlv2 : ∀ p, Lives f2.rs roots p ↔ Lives rs roots p := fun p => by rw [hway2.left]; exact lives_wo HFIT.out.closed (fun q hq => (mem_dead.1 (hway2.mem q hq).1).2) p
      have hml : (f2.rs.map fun r => Value.string r.path) = L.map Value.string := by rw [← hL2, List.map_map]; rfl
      have HL := Lib.hid (show (f2.rs.map fun r => Value.string r.path) = L.map Value.string ∧ f2.rs.length = L.length ∧ (∀ p, Lives f2.rs roots p ↔ Lives rs roots p) ∧ deadL f2.rs roots = [] from ⟨hml, hlen2, hlv2, hnd.1⟩)
      obtain ⟨a2, k2, rfl⟩ := Tab.own_len hrow2
      have cx2 := cx1.trans (kp2.below cx1.size (fun i hi hm => by have h1 := HM2.out i (.inl hm); have h2 := HZ.out; omega))
      have ROWL2 := Lib.hid (Tab.own_kp ROWL.out kp2 (fun b hb hm => by have h1 := HX2.out b (.inl hm); have h2 := (ROWL.out.lt b hb).1; have h3 := HZ.out; omega))
      have I2 := Lib.hid his2
      clear hfin2 hrow2 his2 kp2 hsub2 hway2 hnd hL2 hlen2 hlv2 hml
      go_wp2_with fail
      refine (pathsC N2 F2 s2 f2.rs x2 I2.out (by have := HFI2.out.len; omega)).mono ?_
      rintro e x3 ⟨vp, rfl, hop, e3⟩
      rw [HL.out.1, HL.out.2.1] at hop
      have cx3 := cx2.trans (e3.mono cx2.size)
      have hr1 : Texts.Reads x3 vp L := Texts.Reads.of_own hop
      have hr2 := Texts.Reads.of_own (Copy.own_below ROWL2.out e3)
      have HRL2 := Lib.hid hr2
      obtain ⟨ap, kq, rfl⟩ := Tab.own_len hop
      clear hop
      go_wp2_with fail
      refine (Texts.texts x3 _ _ L L hr1 hr2).mono ?_
      rintro e x4 ⟨rfl, sm⟩
      rw [show decide (L = L) = true from decide_eq_true rfl]
      have e4 : Below x3.heap.size x3 x4 := sm.below (Below.refl _ _)
      have cx4 := cx3.trans (e4.mono cx3.size)
      have bx4 := b0.trans (cx4.mono b0.size)
      have I4 := Lib.hid ((I2.out.below e3).below e4)
      clear hr1 hr2 sm
      obtain ⟨g0, g1, g2⟩ := GX.out x4 cx4
      go_wp2_with fail
      clear g0 g1 g2
      refine (liveF N2 F2 s2 f2.rs rv roots x4 I4.out HFI2.out (HST.out x4 bx4) HRL.out).mono ?_
      rintro e x5 ⟨L', ⟨v5, rfl, ho5, e5⟩, hris5, hmem5⟩
      obtain rfl : L' = L := Srt.ris_ext hris5 HLV.out.1 (fun x => by rw [hmem5, HL.out.2.2.1, HLV.out.2])
      have cx5 := cx4.trans (e5.mono cx4.size)
      have hr1 := Texts.Reads.of_own ho5
      have hr2 := (HRL2.out.below e4).below e5
      obtain ⟨a5, k5, rfl⟩ := Tab.own_len ho5
      clear ho5 hris5 hmem5
      go_wp2_with fail
      refine (Texts.texts x5 _ _ L' L' hr1 hr2).mono ?_
      rintro e x6 ⟨rfl, sm⟩
      rw [show decide (L' = L') = true from decide_eq_true rfl]
      have e6 : Below x5.heap.size x5 x6 := sm.below (Below.refl _ _)
      have cx6 := cx5.trans (e6.mono cx5.size)
      have bx6 := b0.trans (cx6.mono b0.size)
      have I6 := Lib.hid ((I4.out.below e5).below e6)
      clear hr1 hr2 sm
      obtain ⟨g0, g1, g2⟩ := GX.out x6 cx6
      go_wp2_with fail
      clear g0 g1 g2
      refine (deadF N2 F2 s2 f2.rs rv roots x6 I6.out HFI2.out (HST.out x6 bx6) HRL.out).mono ?_
      rintro e x7 ⟨v7, rfl, ho7, e7⟩
      rw [HL.out.2.2.2] at ho7
      obtain ⟨a7, k7, rfl⟩ := Tab.own_len ho7
      have cx7 := cx6.trans (e7.mono cx6.size)
      clear ho7
      go_wp2_with fail
      go_ret
      exact ⟨rfl, b0.trans (cx7.mono b0.size)⟩
    | succ n1 =>
      have hne : f1.out ≠ [] := fun e => by have := HN1.out; rw [e] at this; cases this
      obtain ⟨o, p, hop⟩ : ∃ o p, f1.out = o ++ [p] := ⟨_, _, (List.dropLast_concat_getLast hne).symm⟩
      have hlast := HW1.out.last o p hop
      have hmem := (HW1.out.mem p (by rw [hop]; simp)).2
      obtain ⟨r, hrp⟩ : ∃ r, Sp.get Rec.path rs p = some r := Option.isSome_iff_exists.1 hmem
      have hsz : sizeP rs p = r.size := by unfold sizeP; rw [hrp]
      have hrs := HFIT.out.small r (Sp.get_some hrp).1
      rw [hsz, HFR.out] at hlast
      obtain ⟨z, hz⟩ : ∃ z, r.size = z := ⟨_, rfl⟩
      rw [hz] at hlast hrs
      have HZZ := Lib.hid hz
      have HRP := Lib.hid hrp
      have hge : decide (want ≤ fr - z) = false := decide_eq_false (by omega)
      have hwz : IntKind.i64.wrap (fr - z) = fr - z := by rw [IntKind.wrap_i64]; omega
      have hw1 : IntKind.i64.wrap (n1 : Int) = (n1 : Int) := by rw [IntKind.wrap_i64]; omega
      have hn0 : (0 : Int) ≤ (n1 : Int) := Int.natCast_nonneg _
      have hrow := ROW8.out
      rw [hop] at hrow
      obtain ⟨g, k1', hv⟩ := ownsRow_succ hrow
      injection hv with ha1 hb1 hc1
      subst ha1
      clear hb1 hc1
      have hcell := (own_pop hrow).2.2
      have hcl := World.block_lt_of_cell? w8 _ hcell
      have hS3 : ∀ w', Below w8.heap.size w8 w' → w'.cell? ⟨g, n1, none⟩ = some (.string p) := fun w' hb => (hb.cell (p := ⟨g, n1, none⟩) hcl).trans hcell
      have hS0 := hS3 w8.drew (Below.refl _ w8).drew
      have hget := fun w' (hb : Below w8.heap.size w8 w') => storeOffers.getSome w' (T8.out.below hb) (by have := HFIT.out.len; omega) HFIT.out.bulk HRP.out
      have hlt1 : (n1 : Int) < (n1 : Int) + 1 := by omega
      clear hne hop hmem hrp hsz hz hrow hlast
      obtain ⟨g0, g1, g2⟩ := GX.out w8 c8
      go_wp2_with fail
      clear g0 g1 g2
      refine wp_region_held_drew (S := fun w' => w'.cell? ⟨g, n1, none⟩ = some (.string p)) (by kernel_rfl) hS0 (fun hHeld => ?_)
      refine wpAnyH_take (i := 0) (v := ?_) rfl (by kernel_rfl) (by kernel_rfl) (by kernel_rfl) (fun _ _ _ h => h) (Or.inl ⟨by rfl, ?_⟩) (by assumption) ?_
      rotate_left
      · (intro w hSw; go_simp; try with_reducible rfl)
      simp only [Act.put, List.setIfInBounds_toArray, List.set_cons_zero, List.set_cons_succ]
      refine wpAnyH_take (i := 1) (v := ?_) rfl (by kernel_rfl) (by kernel_rfl) (by kernel_rfl) (fun _ _ _ h => h) (Or.inl ⟨by rfl, ?_⟩) (by assumption) ?_
      rotate_left
      · (intro w hSw; go_simp; try with_reducible rfl)
      simp only [Act.put, List.setIfInBounds_toArray, List.set_cons_zero, List.set_cons_succ]
      refine wpAnyH_take (i := 2) (v := ?_) rfl (by kernel_rfl) (by kernel_rfl) (by kernel_rfl) (fun _ _ _ h => h) (Or.inl ⟨by rfl, ?_⟩) (by assumption) ?_
      rotate_left
      · (intro w hSw; go_simp; try with_reducible rfl)
      simp only [Act.put, List.setIfInBounds_toArray, List.set_cons_zero, List.set_cons_succ]
      refine wpAnyH_take (i := 3) (v := ?_) rfl (by kernel_rfl) (by kernel_rfl) (by kernel_rfl) (fun _ _ _ h => h) (Or.inl ⟨by rfl, ?_⟩) (by assumption) ?_
      rotate_left
      · (intro w hSw; go_simp; try with_reducible rfl)
      simp only [Act.put, List.setIfInBounds_toArray, List.set_cons_zero, List.set_cons_succ]
      refine wpAnyH_take (i := 4) (v := ?_) rfl (by kernel_rfl) (by kernel_rfl) (by kernel_rfl) (fun _ _ _ h => h) (Or.inl ⟨by rfl, ?_⟩) (by assumption) ?_
      rotate_left
      · (intro w hSw; go_simp; try with_reducible rfl)
      simp only [Act.put, List.setIfInBounds_toArray, List.set_cons_zero, List.set_cons_succ]
      refine wpAnyH_take (i := 5) (v := ?_) rfl (by kernel_rfl) (by kernel_rfl) (by kernel_rfl) (fun _ _ _ h => h) (Or.inl ⟨by rfl, ?_⟩) (by assumption) ?_
      rotate_left
      · (intro w hSw; go_simp; try with_reducible rfl)
      simp only [Act.put, List.setIfInBounds_toArray, List.set_cons_zero, List.set_cons_succ]
      refine wpAnyH_take (i := 6) (v := ?_) rfl (by kernel_rfl) (by kernel_rfl) (by kernel_rfl) (fun _ _ _ h => h) (Or.inl ⟨by rfl, ?_⟩) (by assumption) ?_
      rotate_left
      · (intro w hSw; go_simp; try with_reducible rfl)
      simp only [Act.put, List.setIfInBounds_toArray, List.set_cons_zero, List.set_cons_succ]
      refine wpAnyH_take (i := 7) (v := ?_) rfl (by kernel_rfl) (by kernel_rfl) (by kernel_rfl) (fun _ _ _ h => h) (Or.inl ⟨by rfl, ?_⟩) (by assumption) ?_
      rotate_left
      · (intro w hSw; go_simp; try with_reducible rfl)
      simp only [Act.put, List.setIfInBounds_toArray, List.set_cons_zero, List.set_cons_succ]
      refine wpAnyH_take (i := 8) (v := ?_) rfl (by kernel_rfl) (by kernel_rfl) (by kernel_rfl) (fun _ _ _ h => h) (Or.inl ⟨by rfl, ?_⟩) (by assumption) ?_
      rotate_left
      · (intro w hSw; go_simp; try with_reducible rfl)
      simp only [Act.put, List.setIfInBounds_toArray, List.set_cons_zero, List.set_cons_succ]
      refine wpAnyH_ready (rs := [9, 13]) (by kernel_rfl) (by simp) ?_
      refine AllReadyH.cons rfl (fun K hK => ?armAn) (AllReadyH.cons rfl (fun K hK => ?armBn) AllReadyH.nil)
      case' armAn =>
        go_simp
        refine (hget w8.drew (Below.refl _ w8).drew).mono ?_
        rintro e wg3 ⟨oc, hol, hoo, rfl, b3, hrec⟩
        have b3' : Below w8.heap.size w8 wg3 := Copy.below_undrew b3
        refine hK.out _ _ (hS3 wg3 b3') (fun hHeld => ?_)
        clear hK K
        refine wpAnyH_take (i := 10) (v := ?_) rfl (by kernel_rfl) (by kernel_rfl) (by kernel_rfl) (fun _ _ _ h => h) (Or.inl ⟨by rfl, ?_⟩) (by assumption) ?_
        rotate_left
        · (intro w hSw; go_simp; try with_reducible rfl)
        simp only [Act.put, List.setIfInBounds_toArray, List.set_cons_zero, List.set_cons_succ]
        refine wpAnyH_take (i := 11) (v := ?_) rfl (by kernel_rfl) (by kernel_rfl) (by kernel_rfl) (fun _ _ _ h => h) (Or.inl ⟨by rfl, ?_⟩) (by assumption) ?_
        rotate_left
        · (intro w hSw; go_simp; try with_reducible rfl)
        simp only [Act.put, List.setIfInBounds_toArray, List.set_cons_zero, List.set_cons_succ]
        refine wpAnyH_take (i := 12) (v := ?_) rfl (by kernel_rfl) (by kernel_rfl) (by kernel_rfl) (fun _ _ _ h => h) (Or.inl ⟨by rfl, ?_⟩) (by assumption) ?_
        rotate_left
        · (intro w hSw; go_simp; try with_reducible rfl)
        simp only [Act.put, List.setIfInBounds_toArray, List.set_cons_zero, List.set_cons_succ]
        refine wpAnyH_ready (rs := [13]) (by kernel_rfl) (by simp) ?_
        refine AllReadyH.cons rfl (fun K hK => ?_) AllReadyH.nil
        go_simp
        change K _ (wg3.alloc (.cells Ins.zeroRec.cells 31))
        obtain ⟨WN, hWN⟩ : ∃ W, wg3.alloc (.cells Ins.zeroRec.cells 31) = W := ⟨_, rfl⟩
        obtain ⟨bN3, xN⟩ := alloc_fact hWN
        have bN : Below w8.heap.size w8 WN := b3'.trans (bN3.mono b3'.size)
        rw [hWN]
        refine hK.out _ _ (hS3 WN bN) (fun hHeld => ?_)
        have hrecN := hrec.below bN3
        have nbl : w8.heap.size ≤ wg3.heap.size := b3'.size
        have hN : RecAt (fun b => b ≠ wg3.heap.size) WN oc r := hrecN.sub (fun b _ h => by have := h.2; omega)
        obtain ⟨nb, hnb2⟩ : ∃ nb, wg3.heap.size = nb := ⟨_, rfl⟩
        rw [hnb2] at xN nbl hN ⊢
        clear hK K hnb2 hWN bN3 hrec b3' b3
      case' armBn =>
        go_simp
        change K _ (w8.alloc (.cells Ins.zeroRec.cells 31)).drew
        obtain ⟨wg4, hwg4⟩ : ∃ W, (w8.alloc (.cells Ins.zeroRec.cells 31)).drew = W := ⟨_, rfl⟩
        have x4 : Bx wg4 w8.heap.size Ins.zeroRec.cells 31 := by rw [← hwg4]; exact Bx.new w8 Ins.zeroRec.cells 31
        have b4 : Below w8.heap.size w8 wg4 := by rw [← hwg4]; exact ((Below.refl _ w8).alloc (Nat.le_refl _) _).drew
        rw [hwg4]
        refine hK.out _ _ (hS3 wg4 b4) (fun hHeld => ?_)
        obtain ⟨nb, hnb2⟩ : ∃ nb, w8.heap.size = nb := ⟨_, rfl⟩
        rw [hnb2]
        clear hK K hwg4
        refine wpAnyH_ready (rs := [9]) (by kernel_rfl) (by simp) ?_
        refine AllReadyH.cons rfl (fun K hK => ?_) AllReadyH.nil
        go_simp
        refine (hget wg4 b4).mono ?_
        rintro e WN ⟨oc, hol, hoo, rfl, b5, hrecN⟩
        have bN : Below w8.heap.size w8 WN := b4.trans (b5.mono b4.size)
        refine hK.out _ _ (hS3 WN bN) (fun hHeld => ?_)
        clear hK K
        refine wpAnyH_take (i := 10) (v := ?_) rfl (by kernel_rfl) (by kernel_rfl) (by kernel_rfl) (fun _ _ _ h => h) (Or.inl ⟨by rfl, ?_⟩) (by assumption) ?_
        rotate_left
        · (intro w hSw; go_simp; try with_reducible rfl)
        simp only [Act.put, List.setIfInBounds_toArray, List.set_cons_zero, List.set_cons_succ]
        refine wpAnyH_take (i := 11) (v := ?_) rfl (by kernel_rfl) (by kernel_rfl) (by kernel_rfl) (fun _ _ _ h => h) (Or.inl ⟨by rfl, ?_⟩) (by assumption) ?_
        rotate_left
        · (intro w hSw; go_simp; try with_reducible rfl)
        simp only [Act.put, List.setIfInBounds_toArray, List.set_cons_zero, List.set_cons_succ]
        refine wpAnyH_take (i := 12) (v := ?_) rfl (by kernel_rfl) (by kernel_rfl) (by kernel_rfl) (fun _ _ _ h => h) (Or.inl ⟨by rfl, ?_⟩) (by assumption) ?_
        rotate_left
        · (intro w hSw; go_simp; try with_reducible rfl)
        simp only [Act.put, List.setIfInBounds_toArray, List.set_cons_zero, List.set_cons_succ]
        have xN := x4.below b5
        have nbl : w8.heap.size ≤ nb := by omega
        have l4 := x4.lt
        have hN : RecAt (fun b => b ≠ w8.heap.size) WN oc r := hrecN.sub (fun b _ h => by have := h.1; omega)
        rw [hnb2] at xN hN
        clear hnb2 x4 b4 b5 l4
      all_goals
        refine wpAnyH_ready (rs := [14]) (by kernel_rfl) (by simp) ?_
        refine AllReadyH.cons rfl (fun K hK => ?_) AllReadyH.nil
        rw [if_pos (by rfl)]
        refine wp_store_mid 31 _ _ (by rfl) nb 0 oc.toArray (by rfl) (by rfl) ?_ ?_ ?_ ?_
        · exact xN.there oc.toArray.size (by rw [show oc.toArray.size = 39 by simpa using hol]; rfl)
        · rw [List.size_toArray, hol]; kernel_rfl
        · exact all_oneCell_toArray hoo
        refine Mem.named ?_
        intro w9 hw9
        have hW2 : WN.setCells nb 0 oc = w9 := hw9
        have bW : Below w8.heap.size w8 w9 := by rw [← hW2]; exact Tab.below_setCells nbl _ _ bN (Nat.le_refl _)
        have rW : w9.rangeAt nb 0 oc := by rw [← hW2]; exact World.rangeAt_setCells_same _ _ _ _ (xN.there _ (by rw [hol]; rfl))
        have kW : Kp (fun b => b = nb) WN w9 := by rw [← hW2]; exact kp_setCells (M := fun b => b = nb) (fun _ => rfl) _ _ (Kp.refl _ WN)
        have hWR : RecAt (fun b => b ≠ nb) w9 oc r := hN.ag (Ag.of_kp kW (fun q _ hq e => hq e))
        refine hK.out _ _ (hS3 w9 bW) (fun hHeld => ?_)
        clear hK K hw9 hW2
        refine wpAnyH_take (i := 15) (v := ?_) rfl (by kernel_rfl) (by kernel_rfl) (by kernel_rfl) (fun _ _ _ h => h) (Or.inl ⟨by rfl, ?_⟩) (by assumption) ?_
        rotate_left
        · (intro w hSw; go_simp; try with_reducible rfl)
        simp only [Act.put, List.setIfInBounds_toArray, List.set_cons_zero, List.set_cons_succ]
        refine wpAnyH_done (by kernel_rfl) ?_ _
        clear hHeld
        have c9 := c8.trans (bW.mono c8.size)
        have z9 := Nat.le_trans z8 bW.size
        have T9 := Lib.hid (T8.out.below bW)
        have k38 : w9.cell? ⟨nb, 38, none⟩ = some (.int .i64 z) := by
          obtain ⟨kv, rv', e1, e2, _, _⟩ := hWR
          have h := rW 38 (.int .i64 z) (by rw [e1, cells38 e2, HZZ.out])
          simpa using h
        obtain ⟨g0, g1, g2⟩ := GX.out w9 c9
        clear hS0 hS3 hget hWR hrecN hN xN kW rW
        go_wp2_with fail
        clear g0 g1 g2 k38
        obtain ⟨g0, g1, g2⟩ := GX.out w9 c9
        go_wp2_with fail
        clear g0 g1 g2
        have BWt := b0.trans (c9.mono b0.size)
        refine (liveF M2 F2 s2 rs rv roots w9 T9.out HFIT.out (HST.out w9 BWt) HRL.out).mono ?_
        rintro e x1 ⟨L, ⟨vL, rfl, hoL, e1⟩, hris, hmem⟩
        have cx1 := c9.trans (e1.mono c9.size)
        have bx1 := b0.trans (cx1.mono b0.size)
        obtain ⟨aL, kL, rfl⟩ := Tab.own_len hoL
        have ROWL := Lib.hid hoL
        have zx1 := Nat.le_trans z9 e1.size
        have TX := Lib.hid (T9.out.below e1)
        have HLV := Lib.hid (show Srt.Ris L ∧ ∀ p, p ∈ L ↔ Lives rs roots p from ⟨hris, hmem⟩)
        clear hoL hris hmem
        obtain ⟨g0, g1, g2⟩ := GX.out x1 cx1
        go_wp2_with fail
        clear g0 g1 g2
        refine (collectF M2 F2 s2 rs rv roots uv us 4611686018427387904 x1 TX.out HFIT.out (HST.out x1 bx1) HRL.out (HUT.out x1 bx1) HUL.out HUS.out).mono ?_
        rintro e x2 ⟨f2, v2, N2, hfin2, rfl, hrow2, his2, kp2, hsub2⟩
        have hway2 := fin_way HFIT.out.rise hfin2
        have HFI2 := Lib.hid (HFIT.out.way hway2)
        have hnd := none_dead HFIT.out.rise HAC.out HFIT.out.closed hway2 (fin_end hfin2 (by have := (sum_bound HFIT.out hway2).2; omega))
        have hL2 : f2.rs.map Rec.path = L := Srt.ris_ext (ris_paths HFI2.out.rise) HLV.out.1 (fun x => by rw [HLV.out.2, hnd.2, List.mem_map])
        have hlen2 : f2.rs.length = L.length := by rw [← hL2, List.length_map]
        have hlv2 : ∀ p, Lives f2.rs roots p ↔ Lives rs roots p := fun p => by rw [hway2.left]; exact lives_wo HFIT.out.closed (fun q hq => (mem_dead.1 (hway2.mem q hq).1).2) p
        have hml : (f2.rs.map fun r => Value.string r.path) = L.map Value.string := by rw [← hL2, List.map_map]; rfl
        have HL := Lib.hid (show (f2.rs.map fun r => Value.string r.path) = L.map Value.string ∧ f2.rs.length = L.length ∧ (∀ p, Lives f2.rs roots p ↔ Lives rs roots p) ∧ deadL f2.rs roots = [] from ⟨hml, hlen2, hlv2, hnd.1⟩)
        obtain ⟨a2, k2, rfl⟩ := Tab.own_len hrow2
        have cx2 := cx1.trans (kp2.below cx1.size (fun i hi hm => by have h1 := HM2.out i (.inl hm); have h2 := HZ.out; omega))
        have ROWL2 := Lib.hid (Tab.own_kp ROWL.out kp2 (fun b hb hm => by have h1 := HX2.out b (.inl hm); have h2 := (ROWL.out.lt b hb).1; have h3 := HZ.out; omega))
        have I2 := Lib.hid his2
        clear hfin2 hrow2 his2 kp2 hsub2 hway2 hnd hL2 hlen2 hlv2 hml
        go_wp2_with fail
        refine (pathsC N2 F2 s2 f2.rs x2 I2.out (by have := HFI2.out.len; omega)).mono ?_
        rintro e x3 ⟨vp, rfl, hop, e3⟩
        rw [HL.out.1, HL.out.2.1] at hop
        have cx3 := cx2.trans (e3.mono cx2.size)
        have hr1 : Texts.Reads x3 vp L := Texts.Reads.of_own hop
        have hr2 := Texts.Reads.of_own (Copy.own_below ROWL2.out e3)
        have HRL2 := Lib.hid hr2
        obtain ⟨ap, kq, rfl⟩ := Tab.own_len hop
        clear hop
        go_wp2_with fail
        refine (Texts.texts x3 _ _ L L hr1 hr2).mono ?_
        rintro e x4 ⟨rfl, sm⟩
        rw [show decide (L = L) = true from decide_eq_true rfl]
        have e4 : Below x3.heap.size x3 x4 := sm.below (Below.refl _ _)
        have cx4 := cx3.trans (e4.mono cx3.size)
        have bx4 := b0.trans (cx4.mono b0.size)
        have I4 := Lib.hid ((I2.out.below e3).below e4)
        clear hr1 hr2 sm
        obtain ⟨g0, g1, g2⟩ := GX.out x4 cx4
        go_wp2_with fail
        clear g0 g1 g2
        refine (liveF N2 F2 s2 f2.rs rv roots x4 I4.out HFI2.out (HST.out x4 bx4) HRL.out).mono ?_
        rintro e x5 ⟨L', ⟨v5, rfl, ho5, e5⟩, hris5, hmem5⟩
        obtain rfl : L' = L := Srt.ris_ext hris5 HLV.out.1 (fun x => by rw [hmem5, HL.out.2.2.1, HLV.out.2])
        have cx5 := cx4.trans (e5.mono cx4.size)
        have hr1 := Texts.Reads.of_own ho5
        have hr2 := (HRL2.out.below e4).below e5
        obtain ⟨a5, k5, rfl⟩ := Tab.own_len ho5
        clear ho5 hris5 hmem5
        go_wp2_with fail
        refine (Texts.texts x5 _ _ L' L' hr1 hr2).mono ?_
        rintro e x6 ⟨rfl, sm⟩
        rw [show decide (L' = L') = true from decide_eq_true rfl]
        have e6 : Below x5.heap.size x5 x6 := sm.below (Below.refl _ _)
        have cx6 := cx5.trans (e6.mono cx5.size)
        have bx6 := b0.trans (cx6.mono b0.size)
        have I6 := Lib.hid ((I4.out.below e5).below e6)
        clear hr1 hr2 sm
        obtain ⟨g0, g1, g2⟩ := GX.out x6 cx6
        go_wp2_with fail
        clear g0 g1 g2
        refine (deadF N2 F2 s2 f2.rs rv roots x6 I6.out HFI2.out (HST.out x6 bx6) HRL.out).mono ?_
        rintro e x7 ⟨v7, rfl, ho7, e7⟩
        rw [HL.out.2.2.2] at ho7
        obtain ⟨a7, k7, rfl⟩ := Tab.own_len ho7
        have cx7 := cx6.trans (e7.mono cx6.size)
        clear ho7
        go_wp2_with fail
        go_ret
        exact ⟨rfl, b0.trans (cx7.mono b0.size)⟩
end Go.Proofs.YtmmmghpimdfleaaGreatDoor.sweepEnough
