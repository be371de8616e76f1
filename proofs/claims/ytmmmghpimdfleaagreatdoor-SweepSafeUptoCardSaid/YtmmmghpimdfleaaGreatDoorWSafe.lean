/-
  SweepSafe: the walk of the law.
-/
import Derived.Test.YtmmmghpimdfleaaGreatDoorGrpZA
import Derived.Test.YtmmmghpimdfleaaGreatDoorGrpZB
import Derived.Test.YtmmmghpimdfleaaGreatDoorGrpX
set_option linter.unusedVariables false
set_option linter.unusedSimpArgs false
namespace Go.Proofs.YtmmmghpimdfleaaGreatDoor.sweepSafe
open Go.RowKit Mem Tr St Swp
open Go.Proofs.YtmmmghpimdfleaaGreatDoor.Own

theorem sizes_take {rs : List Rec} {l : List ByteArray} {k : Nat} (h : k < l.length) : sizes rs (l.take (k + 1)) = sizes rs (l.take k) + sizeP rs l[k] := by
  rw [List.take_succ_eq_append_getElem h, sizes_snoc]

set_option maxHeartbeats 8000000 in
set_option maxRecDepth 20000 in
theorem walk {rc st : Nat → BitVec 32} (w : World) (hg : Sum.Gl rc st w) (v : Value) (l : List Rec) (hr : Op.Recs (fun b => b < w.heap.size) w v l) (roots : List ByteArray) (us : List (ByteArray × Int)) (want : Int) (rv uv : Value) (hj : Op.JobAt w [rv, uv, .int .i64 want] roots us want rv uv) (hb : Op.bulkR l + 2 * (bulks roots + Op.bulkU us) ≤ 2097152) :
    Calls Tryz.prog 14 #[v, .agg #[rv, uv, .int .i64 want]] w fun e w' => e = .returned (.bool true) ∧ Below w.heap.size w w' := by
  have HR := Lib.hid hr
  have HG := Lib.hid hg
  have HJ := Lib.hid hj
  have hfit : Fit (stockF rc st [] l) := fit_stock (by omega)
  obtain ⟨rs, hrs⟩ : ∃ rs, stockF rc st [] l = rs := ⟨_, rfl⟩
  have HRS := Lib.hid hrs
  rw [hrs] at hfit
  have HFIT := Lib.hid hfit
  have hbl : Op.bulkR l ≤ 4194304 := by omega
  have HRL := Lib.hid (show roots.length ≤ 1048576 by have := length_bulks roots; omega)
  have HUL := Lib.hid (show us.length ≤ 2097152 by have := Op.bulkU_len us; omega)
  have HUS := Lib.hid (show ∀ x ∈ us, x.1.size ≤ 4194304 ∧ x.2 < 9223372036854775808 from fun x hx => ⟨by have := Op.bulkU_mem hx; omega, hj.cnt x hx⟩)
  have HST := Lib.hid (show ∀ W, Below w.heap.size w W → Strs (fun b => b < W.heap.size) W rv roots from fun W hb => (HJ.out.roots.below hb).sub (fun b h _ => h))
  have HUT := Lib.hid (show ∀ W, Below w.heap.size w W → Uses (fun b => b < W.heap.size) W uv us from fun W hb => (HJ.out.uses.below hb).sub (fun b h _ => h))
  obtain ⟨ao, cap, rfl, _, _, _⟩ := hj.roots
  obtain ⟨ao2, cap2, rfl, _, _, _⟩ := hj.uses
  obtain ⟨ao3, cap3, rfl, _, _, _⟩ := id hr
  clear hr hg hb hfit hrs hj
  obtain ⟨rv, hrv⟩ : ∃ x, Value.slice ao roots.length cap = x := ⟨_, rfl⟩
  obtain ⟨uv, huv⟩ : ∃ x, Value.slice ao2 us.length cap2 = x := ⟨_, rfl⟩
  rw [hrv] at HJ HST ⊢
  rw [huv] at HJ HUT ⊢
  clear hrv huv
  go_enter Tryz.func14, Tryz.ntmps14
  go_wp2_with fail
  refine calls_named fun w0 hw0 => ?_
  obtain ⟨b0, x0⟩ := alloc_fact hw0
  have X0 := Lib.hid (show Bx w0 w.heap.size #[rv, uv, .int .i64 want] 74 from x0)
  clear hw0 x0
  have HR0 := Lib.hid ((HR.out.below b0).mono fun b h => Nat.lt_of_lt_of_le h b0.size)
  refine (stockedC19 rc st _ l w0 (HG.out.below b0) HR0.out hbl).mono ?_
  rintro e w1 ⟨M1, F1, s1, rfl, h1, hMF1, c1⟩
  rw [HRS.out] at h1
  have H1 := Lib.hid h1
  have HM1 := Lib.hid hMF1
  have HX1 := Lib.hid (show ∀ b, M1 b ∨ F1 b → b < w1.heap.size from h1.lt)
  clear h1 hMF1
  go_wp2_with fail
  refine (stockedC19 rc st _ l w1 (HG.out.below (b0.trans (c1.mono b0.size))) ((HR0.out.below c1).mono fun b h => Nat.lt_of_lt_of_le h c1.size) hbl).mono ?_
  rintro e w2 ⟨M2, F2, s2, rfl, h2, hMF2, d2⟩
  rw [HRS.out] at h2
  have H2 := Lib.hid h2
  have HM2 := Lib.hid hMF2
  have HX2 := Lib.hid (show ∀ b, M2 b ∨ F2 b → b < w2.heap.size from h2.lt)
  have c2 := c1.trans (d2.mono c1.size)
  clear h2 hMF2
  go_wp2_with fail
  refine (awakeC19 rc st w2 (HG.out.below (b0.trans (c2.mono b0.size)))).mono ?_
  rintro e w3 ⟨rfl, d3⟩
  have c3 := c2.trans (d3.mono c2.size)
  have HZ := Lib.hid (show w0.heap.size ≤ w1.heap.size ∧ w1.heap.size ≤ w2.heap.size ∧ w2.heap.size ≤ w3.heap.size from ⟨c1.size, d2.size, d3.size⟩)
  have A1 := Lib.hid ((H1.out.below d2).below d3)
  have A2 := Lib.hid (H2.out.below d3)
  have GX := Lib.hid (show ∀ W, Below w0.heap.size w0 W → W.cell? ⟨w.heap.size, 0, none⟩ = some rv ∧ W.cell? ⟨w.heap.size, 1, none⟩ = some uv ∧ W.cell? ⟨w.heap.size, 2, none⟩ = some (.int .i64 want) from fun W hb => by
    have h := X0.out.below hb
    exact ⟨h.cell 0, h.cell 1, h.cell 2⟩)
  clear d2 d3
  obtain ⟨g0, g1, g2⟩ := GX.out w3 c3
  go_wp2_with fail
  clear g0 g1 g2
  refine (liveF M1 F1 s1 rs rv roots w3 A1.out HFIT.out (HST.out w3 (b0.trans (c3.mono b0.size))) HRL.out).mono ?_
  rintro e w4 ⟨L, ⟨vL, rfl, hoL, d4⟩, hris, hmem⟩
  have c4 := c3.trans (d4.mono c3.size)
  have z4 : w3.heap.size ≤ w4.heap.size := d4.size
  obtain ⟨aL, kL, rfl⟩ := Tab.own_len hoL
  have ROWL := Lib.hid hoL
  have HLV := Lib.hid (show ∀ p, p ∈ L ↔ Lives rs roots p from hmem)
  obtain ⟨nl, hnl⟩ : ∃ nl, L.length = nl := ⟨_, rfl⟩
  have HNL := Lib.hid hnl
  have hnll : nl ≤ 1048576 := by
    rw [← hnl]
    have h1 : L.length ≤ (rs.map Rec.path).length := nodup_sub (Srt.ris_nodup hris) (fun p hp => by
      obtain ⟨r, hr, e⟩ := has_iff.1 (lives_has HFIT.out.closed ((hmem p).1 hp))
      exact List.mem_map.2 ⟨r, hr, e⟩)
    rw [List.length_map] at h1
    exact Nat.le_trans h1 HFIT.out.len
  rw [hnl] at ROWL ⊢
  have B1 := Lib.hid (A1.out.below d4)
  have B2 := Lib.hid (A2.out.below d4)
  clear hoL hris hmem hnl d4
  obtain ⟨g0, g1, g2⟩ := GX.out w4 c4
  go_wp2_with fail
  clear g0 g1 g2
  have BW4 := b0.trans (c4.mono b0.size)
  refine (collectF M1 F1 s1 rs rv roots uv us want w4 B1.out HFIT.out (HST.out w4 BW4) HRL.out (HUT.out w4 BW4) HUL.out HUS.out).mono ?_
  rintro e w5 ⟨f1, v1, N1, hfin1, rfl, hrow1, his1, kp1, hsub1⟩
  have hway1 := fin_way HFIT.out.rise hfin1
  have HF1 := Lib.hid (HFIT.out.way hway1)
  have HW1 := Lib.hid hway1
  have c5 := c4.trans (kp1.below c4.size (fun i hi hm => by have h1 := HM1.out i (.inl hm); have h2 := HZ.out; omega))
  have z5 : w3.heap.size ≤ w5.heap.size := Nat.le_trans z4 kp1.size
  have S5 := Lib.hid his1
  have HN1M := Lib.hid hsub1
  have T5 := Lib.hid (B2.out.kp kp1 (fun b hb hm => by have h1 := HX1.out b (.inl hm); have h2 := HM2.out b (.inl hb); omega) (fun b hb hm => by have h1 := HX1.out b (.inl hm); have h2 := HM2.out b (.inr hb); omega))
  have ROWL5 := Lib.hid (Tab.own_kp ROWL.out kp1 (fun b hb hm => by have h1 := HX1.out b (.inl hm); have h2 := (ROWL.out.lt b hb).1; have h3 := HZ.out; omega))
  obtain ⟨a1, k1, rfl⟩ := Tab.own_len hrow1
  obtain ⟨n1, hn1⟩ : ∃ n1, f1.out.length = n1 := ⟨_, rfl⟩
  have HN1 := Lib.hid hn1
  have hn1l : n1 ≤ 1048576 := by rw [← hn1]; exact Nat.le_trans hway1.len HFIT.out.len
  have hrow1 : w5.ownsRow w4.heap.size 9 1 (.slice a1 f1.out.length k1) f1.out.length (f1.out.map .string) := hrow1
  rw [hn1] at hrow1
  have ROW5 := Lib.hid hrow1
  have hfs := hway1.sum
  obtain ⟨fr, hfr⟩ : ∃ fr, f1.freed = fr := ⟨_, rfl⟩
  have HFR := Lib.hid (show sizes rs f1.out = fr by rw [← hfs, hfr])
  rw [hfr, hn1]
  clear hfin1 hrow1 his1 kp1 hsub1 hway1 hn1 hfr hfs
  go_wp2_with fail
  go_loopw [11, 12, 13, 14, 15, 60] (fun _ _ _ _ _ i wr => ∃ k : Nat, k ≤ nl ∧ i = .int .i64 k ∧ Below w5.heap.size w5 wr) (fun _ _ _ _ _ i _ => nl - (intOf i).toNat)
  case atStart => exact ⟨0, Nat.zero_le _, rfl, Below.refl _ _⟩
  case round =>
    obtain ⟨k, hk, rfl, br⟩ := hrel
    by_cases hlt : k < nl
    · have hstr : Strs (fun b => w3.heap.size ≤ b) wr (.slice aL nl kL) L := by
        have h := Copy.own_below ROWL5.out br
        rw [← HNL.out] at h ⊢
        exact Strs.of_own h
      obtain ⟨rb, ro, rcap, hrv, hcells⟩ := strs_at hstr (by rw [HNL.out]; omega)
      rw [HNL.out] at hrv
      injection hrv with hrv1 hrv2 hrv3
      subst hrv1
      clear hrv2 hrv3
      have hkl : k < L.length := by rw [HNL.out]; exact hlt
      have gk := hcells k hkl
      have hlv := (HLV.out L[k]).1 (List.getElem_mem _)
      have hh : Sto.has f1.rs L[k] = true := by
        rw [HW1.out.left]
        exact has_wo.2 ⟨lives_has HFIT.out.closed hlv, fun hm => (mem_dead.1 (HW1.out.mem _ hm).1).2 hlv⟩
      obtain ⟨r, hr⟩ : ∃ r, Sp.get Rec.path f1.rs L[k] = some r := Option.isSome_iff_exists.1 hh
      have hr2 : Sp.get Rec.path rs L[k] = some r := by
        have h := hr
        rw [HW1.out.left] at h
        exact get_wo HFIT.out.rise h
      obtain ⟨q, hq⟩ : ∃ q, L[k] = q := ⟨_, rfl⟩
      rw [hq] at gk hr hr2
      have HG1 := Lib.hid hr
      have HG2 := Lib.hid hr2
      have HRB := Lib.hid (HFIT.out.bulk r (Sp.get_some hr2).1)
      have e0 : (0 : Int) ≤ (k : Int) := Int.natCast_nonneg _
      have e1 : (k : Int) < (nl : Int) := by omega
      clear hcells hq hr hr2 hh hlv hstr hkl
      go_wp2_with fail
      refine (storeOffers.getSome wr (S5.out.below br) (by have := HF1.out.len; omega) HF1.out.bulk HG1.out).mono ?_
      rintro e w7 ⟨cs1, hl1, hoc1, rfl, b7, hrec1⟩
      have HREC1 := Lib.hid hrec1
      have br7 := br.trans (b7.mono br.size)
      clear hrec1
      go_wp2_with (refine wpList_store_mid (by rfl) 31 _ _ (by rfl) w7.heap.size 0 cs1.toArray (by rfl) (by rfl) ?s4 ?s5 ?s6 ?_; rotate_right; refine Mem.named ?_; intro W8 hW8)
      case s4 => first | exact (Bx.new w7 Ins.zeroRec.cells 31).there 39 rfl | exact (Bx.new w7 Ins.zeroRec.cells 31).there _ (by rw [show cs1.toArray.size = 39 by simpa using hl1]; rfl)
      case s5 => first | exact infoEx | (rw [List.size_toArray, hl1]; kernel_rfl)
      case s6 => first | exact hoc1 | exact all_oneCell_toArray hoc1
      have R8 := Lib.hid (stash_range hW8 hl1.symm)
      have b8 := stash hW8
      have br8 := br7.trans (b8.mono br7.size)
      clear hW8
      refine (storeOffers.getSome W8 (T5.out.below br8) (by have := HFIT.out.len; omega) HFIT.out.bulk HG2.out).mono ?_
      rintro e w9 ⟨cs2, hl2, hoc2, rfl, b9, hrec2⟩
      have HREC2 := Lib.hid hrec2
      have br9 := br8.trans (b9.mono br8.size)
      clear hrec2
      have hu := Tryz.underlying31
      go_wp2_with (first
        | (refine wpList_store_mid (by rfl) 31 _ _ (by rfl) w9.heap.size 0 cs2.toArray (by rfl) (by rfl) ?t4 ?t5 ?t6 ?_; rotate_right; refine Mem.named ?_; intro W10 hW10; have r1 := range_below R8.out (b9.trans ((stash hW10).mono b9.size)); have r2 := stash_range hW10 hl2.symm)
        | (refine wpList_load_midG (by first | rfl | simp [Region.wanted, yielded]) 31 _ (by rfl) w7.heap.size 0 (by rfl) cs1 _ r1 hu rfl (by rw [hl1]; kernel_rfl) ?_)
        | (refine wpList_load_midG (by first | rfl | simp [Region.wanted, yielded]) 31 _ (by rfl) w9.heap.size 0 (by rfl) cs2 _ r2 hu rfl (by rw [hl2]; kernel_rfl) ?_))
      case t4 => first | exact (Bx.new w9 Ins.zeroRec.cells 31).there 39 rfl | exact (Bx.new w9 Ins.zeroRec.cells 31).there _ (by rw [show cs2.toArray.size = 39 by simpa using hl2]; rfl)
      case t5 => first | exact infoEx | (rw [List.size_toArray, hl2]; kernel_rfl)
      case t6 => first | exact hoc2 | exact all_oneCell_toArray hoc2
      have b10 := stash hW10
      have br10 := br9.trans (b10.mono br9.size)
      clear r1 r2 hW10
      refine (rsameC _ _ r r cs1 cs2 W10 (HREC1.out.below (b8.trans ((b9.trans (b10.mono b9.size)).mono b8.size))) (HREC2.out.below b10) HRB.out).mono ?_
      rintro e w11 ⟨rfl, b11⟩
      rw [show eqR r r = true from decide_eq_true rfl]
      have br11 := br10.trans (b11.mono br10.size)
      go_wp2_with fail
      go_roundw
      case rel => exact ⟨k + 1, by omega, by go_num, br11⟩
      case measure => simp [intOf]; omega
    · have hkn : nl = k := by omega
      subst hkn
      have ROWL6 := Lib.hid (Copy.own_below ROWL5.out br)
      have ROW6 := Lib.hid (Copy.own_below ROW5.out br)
      have S6 := Lib.hid (S5.out.below br)
      have T6 := Lib.hid (T5.out.below br)
      have c6 := c5.trans (br.mono c5.size)
      have z6 : w3.heap.size ≤ wr.heap.size := Nat.le_trans z5 br.size
      clear hlt hk
      go_wp2_with fail
      generalize wr = w6 at *
      go_loopw [16, 18, 19, 20, 22, 91] (fun x16 _ _ _ _ i wr => ∃ k : Nat, k ≤ n1 ∧ i = .int .i64 k ∧ x16 = .int .i64 (sizes rs (f1.out.take k)) ∧ Hid (Kp M2 w6 wr ∧ ∃ M', Is M' F2 wr s2 (wo rs (f1.out.take k)) ∧ ∀ b, M' b → M2 b)) (fun _ _ _ _ _ i _ => n1 - (intOf i).toNat)
      case atStart => exact ⟨0, Nat.zero_le _, rfl, rfl, Lib.hid ⟨Kp.refl _ _, M2, by rw [List.take_zero, wo_nil]; exact T6.out, fun _ h => h⟩⟩
      case round =>
        obtain ⟨k, hk, rfl, rfl, HI⟩ := hrel
        obtain ⟨kp, M', his, hsub⟩ := HI.out
        have HKP := Lib.hid kp
        have HIS := Lib.hid his
        have HSUB := Lib.hid hsub
        have z7 : w3.heap.size ≤ wr.heap.size := Nat.le_trans z6 kp.size
        have HAP := Lib.hid (show ∀ b, M2 b → b < w3.heap.size ∧ w1.heap.size ≤ b from fun b hb => ⟨by have h1 := HX2.out b (.inl hb); have h2 := HZ.out; omega, HM2.out b (.inl hb)⟩)
        have SW := Lib.hid (S6.out.kp kp (fun b hb hm => by have h1 := (HAP.out b hm).2; have h2 := HX1.out b (.inl (HN1M.out b hb)); omega) (fun b hb hm => by have h1 := (HAP.out b hm).2; have h2 := HX1.out b (.inr hb); omega))
        have ROWLW := Lib.hid (Tab.own_kp ROWL6.out kp (fun b hb hm => by have h1 := (HAP.out b hm).1; have h2 := (ROWL6.out.lt b hb).1; omega))
        have ROWW := Lib.hid (Tab.own_kp ROW6.out kp (fun b hb hm => by have h1 := (HAP.out b hm).1; have h2 := (ROW6.out.lt b hb).1; omega))
        clear HI kp his hsub
        by_cases hlt : k < n1
        · have hstr : Strs (fun b => w4.heap.size ≤ b) wr (.slice a1 n1 k1) f1.out := by
            have h := ROWW.out
            rw [← HN1.out] at h ⊢
            exact Strs.of_own h
          obtain ⟨rb, ro, rcap, hrv, hcells⟩ := strs_at hstr (by rw [HN1.out]; omega)
          rw [HN1.out] at hrv
          injection hrv with hrv1 hrv2 hrv3
          subst hrv1
          clear hrv2 hrv3
          have hkl : k < f1.out.length := by rw [HN1.out]; exact hlt
          have gk := hcells k hkl
          have hout := HW1.out.outs k hkl
          have hfree := hout.2
          unfold free at hfree
          rw [Bool.and_eq_true, decide_eq_true_eq] at hfree
          obtain ⟨r, hr⟩ : ∃ r, Sp.get Rec.path (wo rs (f1.out.take k)) f1.out[k] = some r := Option.isSome_iff_exists.1 hfree.1
          have hsz : sizeP rs f1.out[k] = r.size := by unfold sizeP; rw [get_wo HFIT.out.rise hr]
          have hst1 := sizes_take (rs := rs) hkl
          rw [hsz] at hst1
          have hb1 := sizes_le HFIT.out.small (f1.out.take k)
          have hb2 : ((f1.out.take k).length : Int) ≤ 1048576 := by rw [List.length_take]; omega
          have hrz := HFIT.out.small r (Sp.get_some (get_wo HFIT.out.rise hr)).1
          have hE : cutE (wo rs (f1.out.take k)) f1.out[k] = 0 := by unfold cutE; rw [if_pos hfree.1, if_pos hfree.2]
          have hS : cutS (wo rs (f1.out.take k)) f1.out[k] = wo rs (f1.out.take (k + 1)) := by unfold cutS; rw [if_pos hE, wo_snoc, List.take_succ_eq_append_getElem hkl]
          have hhs : Sto.has f1.rs f1.out[k] = false := by
            cases hh : Sto.has f1.rs f1.out[k] with
            | false => rfl
            | true =>
              rw [HW1.out.left] at hh
              exact absurd (List.getElem_mem hkl) (has_wo.1 hh).2
          have hnl : ∀ x ∈ L, x ≠ f1.out[k] := fun x hx e => (mem_dead.1 hout.1).2 (by rw [← e]; exact (HLV.out x).1 hx)
          have HCUT := Lib.hid (fun W hb => cutC M' F2 s2 (wo rs (f1.out.take k)) f1.out[k] W (HIS.out.below hb) (Nat.le_trans (wo_len _ _) (by have := HFIT.out.len; omega)))
          obtain ⟨q, hq⟩ : ∃ q, f1.out[k] = q := ⟨_, rfl⟩
          obtain ⟨z, hz⟩ : ∃ z, r.size = z := ⟨_, rfl⟩
          obtain ⟨Z, hZ⟩ : ∃ Z, sizes rs (f1.out.take k) = Z := ⟨_, rfl⟩
          rw [hq] at gk hr hE hS hhs hnl HCUT
          rw [hz] at hst1 hrz
          rw [hZ] at hst1 hb1 ⊢
          have HST1 := Lib.hid hst1
          have HGR := Lib.hid hr
          have HE := Lib.hid (show cutE (wo rs (f1.out.take k)) q = 0 ∧ cutS (wo rs (f1.out.take k)) q = wo rs (f1.out.take (k + 1)) ∧ Sto.has f1.rs q = false ∧ (∀ x ∈ L, x ≠ q) from ⟨hE, hS, hhs, hnl⟩)
          have HZZ := Lib.hid hz
          have hwz : IntKind.i64.wrap (Z + z) = Z + z := by rw [IntKind.wrap_i64]; omega
          have e0 : (0 : Int) ≤ (k : Int) := Int.natCast_nonneg _
          have e1 : (k : Int) < (n1 : Int) := by omega
          clear hcells hq hz hZ hr hE hS hhs hnl hout hfree hsz hst1 hstr hkl hb1 hb2 hrz
          go_wp2_with fail
          refine (storeOffers.getSome wr HIS.out (Nat.le_trans (wo_len _ _) (by have := HFIT.out.len; omega)) (fun x hx => HFIT.out.bulk x (mem_wo.1 hx).1) HGR.out).mono ?_
          rintro e w7 ⟨oc, hol, hoc, rfl, b7, hrec⟩
          obtain ⟨kv, rv', hcs, hh, _, _⟩ := hrec
          have HCS := Lib.hid hcs
          clear hcs
          go_wp2_with (refine wpList_store_mid (by rfl) 31 _ _ (by rfl) w7.heap.size 0 oc.toArray (by rfl) (by rfl) ?s4 ?s5 ?s6 ?_; rotate_right; refine Mem.named ?_; intro W8 hW8; have x8 : RB W8 w7.heap.size r kv rv' := ⟨by have := stash_bx hW8 (hol.symm); rw [HCS.out] at this; exact this, hh⟩; have X8 := Lib.hid x8; have b8 := stash hW8; clear x8 hW8)
          case s4 => first | exact (Bx.new w7 Ins.zeroRec.cells 31).there 39 rfl | exact (Bx.new w7 Ins.zeroRec.cells 31).there _ (by rw [show oc.toArray.size = 39 by simpa using hol]; rfl)
          case s5 => first | exact infoEx | (rw [List.size_toArray, hol]; kernel_rfl)
          case s6 => first | exact hoc | exact all_oneCell_toArray hoc
          have b78 := b7.trans (b8.mono b7.size)
          obtain ⟨nb, hnb⟩ : ∃ nb, w7.heap.size = nb := ⟨_, rfl⟩
          have hnb2 : wr.heap.size ≤ nb := by rw [← hnb]; exact b7.size
          rw [hnb] at X8
          refine (hasC N1 F1 s1 f1.rs q W8 (SW.out.below b78) (by have := HF1.out.len; omega)).mono ?_
          rintro e w9 ⟨rfl, b9⟩
          rw [HE.out.2.2.1]
          have b79 := b78.trans (b9.mono b78.size)
          have X9 := Lib.hid (X8.out.below b9)
          rw [hnb]
          clear hnb b7 b8 b9 hh hol hoc
          go_wp2_with fail
          generalize wr = wq at *
          go_loopw [22, 114] (fun _ i wx => ∃ t : Nat, t ≤ nl ∧ i = .int .i64 t ∧ Below w9.heap.size w9 wx) (fun _ i _ => nl - (intOf i).toNat)
          case atStart => exact ⟨0, Nat.zero_le _, rfl, Below.refl _ _⟩
          case round =>
            obtain ⟨t, ht, rfl, bt⟩ := hrel
            have b7t := b79.trans (bt.mono b79.size)
            by_cases hlt6 : t < nl
            · have hstr : Strs (fun b => w3.heap.size ≤ b) wr (.slice aL nl kL) L := by
                have h := Copy.own_below ROWLW.out b7t
                rw [← HNL.out] at h ⊢
                exact Strs.of_own h
              obtain ⟨rb6, ro6, rcap6, hrv, hcells⟩ := strs_at hstr (by rw [HNL.out]; omega)
              rw [HNL.out] at hrv
              injection hrv with hrv1 hrv2 hrv3
              subst hrv1
              clear hrv2 hrv3
              have htl : t < L.length := by rw [HNL.out]; exact hlt6
              have gt := hcells t htl
              have hne := HE.out.2.2.2 L[t] (List.getElem_mem _)
              obtain ⟨y, hy⟩ : ∃ y, L[t] = y := ⟨_, rfl⟩
              rw [hy] at gt hne
              have tt : (y.toList == q.toList) = false := by rw [Eq.bytes_beq]; exact decide_eq_false hne
              have t0 : (0 : Int) ≤ (t : Int) := Int.natCast_nonneg _
              have t1 : (t : Int) < (nl : Int) := by omega
              clear hcells hy htl hne hstr
              go_wp2_with fail
              go_roundw
              case rel => exact ⟨t + 1, by omega, by go_num, bt⟩
              case measure => simp [intOf]; omega
            · have htm : nl = t := by omega
              subst htm
              have hcc := HCUT.out wr b7t
              rw [HE.out.1, HE.out.2.1] at hcc
              have X10 := Lib.hid (X9.out.below bt)
              have l10 := X10.out.bx.lt
              clear hlt6 ht
              go_wp2_with fail
              refine hcc.mono ?_
              rintro e w11 ⟨rfl, M3, his3, kp3, hsub3⟩
              have hnM : ¬ M' nb := fun hm => by have h1 := (HAP.out _ (HSUB.out _ hm)).1; omega
              have k38 := (X10.out.kp kp3 hnM).c38
              rw [HZZ.out] at k38
              have kpA := (HKP.out.then (Kp.of_below b7t : Kp M2 wq wr)).trans kp3 (fun _ _ h => h) (fun i _ h => HSUB.out i h)
              have HNEW := Lib.hid (show Kp M2 w6 w11 ∧ ∃ M', Is M' F2 w11 s2 (wo rs (f1.out.take (k + 1))) ∧ ∀ b, M' b → M2 b from ⟨kpA, M3, his3, fun b h => HSUB.out b (hsub3 b h)⟩)
              clear hcc his3 kp3 hsub3 hnM kpA
              go_wp2_with fail
              go_roundw
              case rel => exact ⟨k + 1, by omega, by go_num, by rw [HST1.out], HNEW⟩
              case measure => simp [intOf]; omega
        · have hkn : n1 = k := by omega
          subst hkn
          rw [List.take_of_length_le (by rw [HN1.out]; exact Nat.le_refl _), HFR.out]
          have hfull : wo rs (f1.out.take n1) = f1.rs := by rw [List.take_of_length_le (by rw [HN1.out]; exact Nat.le_refl _), HW1.out.left]
          have hI := HIS.out
          rw [hfull] at hI
          have TI := Lib.hid hI
          have c7 := c6.trans (HKP.out.below c6.size (fun i hi hm => by have h1 := (HAP.out i hm).2; have h2 := HZ.out; omega))
          have hml : (f1.rs.map fun r => Value.string r.path) = (f1.rs.map Rec.path).map Value.string := by rw [List.map_map]; rfl
          obtain ⟨ps, hps⟩ : ∃ ps, f1.rs.map Rec.path = ps := ⟨_, rfl⟩
          have HPT := Lib.hid hps
          have hpl : ps.length = f1.rs.length := by rw [← hps, List.length_map]
          have HPL := Lib.hid hpl
          have hP := pathsC N1 F1 s1 f1.rs wr SW.out (by have := HF1.out.len; omega)
          rw [hml, hps, ← hpl] at hP
          obtain ⟨np, hnp⟩ : ∃ np, f1.rs.length = np := ⟨_, rfl⟩
          have HNP := Lib.hid hnp
          have hnpl : np ≤ 1048576 := by rw [← hnp]; exact HF1.out.len
          clear hlt hk hI hfull hml hps hpl hnp
          go_wp2_with fail
          refine hP.mono ?_
          rintro e w8 ⟨v8, rfl, ho8, b8⟩
          have HS8 := Lib.hid (show Strs (fun b => wr.heap.size ≤ b) w8 v8 ps from Strs.of_own ho8)
          obtain ⟨a8, k8, rfl⟩ := Tab.own_len ho8
          rw [HPL.out, HNP.out] at HS8 ⊢
          have c8 := c7.trans (b8.mono c7.size)
          have S8 := Lib.hid (SW.out.below b8)
          have T8 := Lib.hid (TI.out.below b8)
          clear hP ho8
          go_wp2_with fail
          generalize wr = w7 at *
          go_loopw [24, 25, 26, 28, 136] (fun _ _ _ _ i wr => ∃ k : Nat, k ≤ np ∧ i = .int .i64 k ∧ Below w8.heap.size w8 wr) (fun _ _ _ _ i _ => np - (intOf i).toNat)
          case atStart => exact ⟨0, Nat.zero_le _, rfl, Below.refl _ _⟩
          case round =>
            obtain ⟨k, hk, rfl, bj⟩ := hrel
            by_cases hlj : k < np
            · obtain ⟨rb, ro, rcap, hrv, hcells⟩ := strs_at (HS8.out.below bj) (by rw [HPL.out, HNP.out]; omega)
              injection hrv with hrv1 hrv2 hrv3
              subst hrv1
              clear hrv2 hrv3
              have hjl : k < ps.length := by rw [HPL.out, HNP.out]; exact hlj
              have gj := hcells k hjl
              have hjr : k < f1.rs.length := by rw [HNP.out]; exact hlj
              have hpj : ps[k] = f1.rs[k].path := by
                have : ps[k]? = some f1.rs[k].path := by rw [← HPT.out, List.getElem?_map, List.getElem?_eq_getElem hjr]; rfl
                rw [List.getElem?_eq_getElem hjl] at this
                exact Option.some.inj this
              have hmj : f1.rs[k] ∈ f1.rs := List.getElem_mem _
              obtain ⟨r, hr⟩ : ∃ r, f1.rs[k] = r := ⟨_, rfl⟩
              rw [hpj, hr] at gj
              rw [hr] at hmj
              have HGET := Lib.hid (Sp.get_of_mem HF1.out.rise hmj)
              have HCL := Lib.hid (HF1.out.closed r hmj)
              have hrb := HF1.out.bulk r hmj
              have hrfl : r.refs.length ≤ 4194304 := by unfold Rec.bulk at hrb; have := length_bulks r.refs; omega
              obtain ⟨q, hq⟩ : ∃ q, r.path = q := ⟨_, rfl⟩
              rw [hq] at gj HGET
              have j0 : (0 : Int) ≤ (k : Int) := Int.natCast_nonneg _
              have j1 : (k : Int) < (np : Int) := by omega
              clear hcells hjl hpj hmj hr hrb hq
              go_wp2_with fail
              refine (refsC N1 F1 s1 f1.rs q wr (S8.out.below bj) (by have := HF1.out.len; omega) HF1.out.bulk).mono ?_
              rintro e w9 ⟨b9, hm⟩
              rw [HGET.out] at hm
              obtain ⟨v9, rfl, ho9⟩ := hm
              have bj9 := bj.trans (b9.mono bj.size)
              have HS9 := Lib.hid (show Strs (fun b => wr.heap.size ≤ b) w9 v9 r.refs from Strs.of_own ho9)
              obtain ⟨a9, k9, rfl⟩ := Tab.own_len ho9
              obtain ⟨m9, hm9⟩ : ∃ m9, r.refs.length = m9 := ⟨_, rfl⟩
              have HM9 := Lib.hid hm9
              rw [hm9] at HS9 hrfl ⊢
              clear ho9 hm9
              go_wp2_with fail
              go_loopw [28, 150] (fun _ i wr => ∃ t : Nat, t ≤ m9 ∧ i = .int .i64 t ∧ Below w9.heap.size w9 wr) (fun _ i _ => m9 - (intOf i).toNat)
              case atStart => exact ⟨0, Nat.zero_le _, rfl, Below.refl _ _⟩
              case round =>
                obtain ⟨t, ht, rfl, bt⟩ := hrel
                have bjt := bj9.trans (bt.mono bj9.size)
                by_cases hlt6 : t < m9
                · obtain ⟨rb6, ro6, rcap6, hrv, hcells⟩ := strs_at (HS9.out.below bt) (by rw [HM9.out]; omega)
                  injection hrv with hrv1 hrv2 hrv3
                  subst hrv1
                  clear hrv2 hrv3
                  have htl : t < r.refs.length := by rw [HM9.out]; exact hlt6
                  have gt := hcells t htl
                  have hh := HCL.out r.refs[t] (List.getElem_mem _)
                  obtain ⟨y, hy⟩ : ∃ y, r.refs[t] = y := ⟨_, rfl⟩
                  rw [hy] at gt hh
                  have HH := Lib.hid hh
                  have t0 : (0 : Int) ≤ (t : Int) := Int.natCast_nonneg _
                  have t1 : (t : Int) < (m9 : Int) := by omega
                  clear hcells hy htl hh
                  go_wp2_with fail
                  refine (hasC N1 F1 s1 f1.rs y wr (S8.out.below bjt) (by have := HF1.out.len; omega)).mono ?_
                  rintro e w10 ⟨rfl, b10⟩
                  rw [HH.out]
                  have bt10 := bt.trans (b10.mono bt.size)
                  go_wp2_with fail
                  go_roundw
                  case rel => exact ⟨t + 1, by omega, by go_num, bt10⟩
                  case measure => simp [intOf]; omega
                · have htm : m9 = t := by omega
                  subst htm
                  go_wp2_with fail
                  go_roundw
                  case rel => exact ⟨k + 1, by omega, by go_num, bjt⟩
                  case measure => simp [intOf]; omega
            · have hkn : np = k := by omega
              subst hkn
              have c9 := c8.trans (bj.mono c8.size)
              have S9 := Lib.hid (S8.out.below bj)
              have T9 := Lib.hid (T8.out.below bj)
              have te : (fr == fr) = true := by simp
              obtain ⟨MT, hMT⟩ : ∃ M, M = M' := ⟨_, rfl⟩
              go_wp2_with fail
              refine (allC M' F2 s2 f1.rs wr T9.out HF1.out.len HF1.out.bulk).mono ?_
              rintro e w10 ⟨v10, rfl, hrec10, b10⟩
              have R10 := Lib.hid hrec10
              obtain ⟨a10, k10, rfl, _, _, _⟩ := hrec10
              have c10 := c9.trans (b10.mono c9.size)
              go_wp2_with fail
              refine (wholeC N1 F1 _ s1 f1.rs _ f1.rs w10 (S9.out.below b10) HF1.out.len HF1.out.bulk R10.out rfl (fun r hr => Sp.get_of_mem HF1.out.rise hr)).mono ?_
              rintro e w11 ⟨rfl, b11⟩
              have c11 := c10.trans (b11.mono c10.size)
              go_wp2_with fail
              go_ret
              exact ⟨rfl, b0.trans (c11.mono b0.size)⟩
end Go.Proofs.YtmmmghpimdfleaaGreatDoor.sweepSafe
