/-
  SweepGreatest: the walk of the law (printed by tools/mkgrea.py).
-/
import Derived.Test.YtmmmghpimdfleaaGreatDoorGrP
import Derived.Test.YtmmmghpimdfleaaGreatDoorSetG
import Derived.Test.YtmmmghpimdfleaaGreatDoorGrpZB
import Derived.Test.YtmmmghpimdfleaaGreatDoorUsesA
set_option linter.unusedVariables false
set_option linter.unusedSimpArgs false
namespace Go.Proofs.YtmmmghpimdfleaaGreatDoor.sweepGreatest
open Go.RowKit Mem Tr St Swp
open Go.Proofs.YtmmmghpimdfleaaGreatDoor.Own
open Go.Proofs.YtmmmghpimdfleaaGreatDoor.Mp (InG mem_add)

def nore (r : Rec) : Rec := { r with refs := [] }
theorem nore_bulk (r : Rec) : (nore r).bulk ≤ r.bulk := by
  show r.path.size + r.tree.bulk + bulks [] ≤ r.path.size + r.tree.bulk + bulks r.refs
  exact Nat.add_le_add_left (Nat.zero_le _) _
theorem bulk_nore (l : List Rec) : Op.bulkR (l.map nore) ≤ Op.bulkR l := by
  induction l with
  | nil => exact Nat.le_refl _
  | cons r l ih => rw [List.map_cons, bulkR_cons, bulkR_cons]; have := nore_bulk r; omega
theorem rec_nore {S : Nat → Prop} {w : World} {r : Rec} {kv rv : Value} (h : RecAt S w (r.cells kv rv) r) (hk : KidsAt S w kv r.tree.kids) : RecAt S w (r.cells kv (.slice none 0 0)) (nore r) := by
  obtain ⟨kv', rv', e, hh, hk', hr⟩ := h
  exact ⟨kv, .slice none 0 0, rfl, hh, hk, Strs.nil _ _⟩
theorem same_len {rs : List Rec} (hr : Sp.Rising Rec.path rs) {L : List ByteArray} (hn : L.Nodup) (h : ∀ p, p ∈ L ↔ p ∈ rs.map Rec.path) : L.length = rs.length := by
  have hlm : (rs.map Rec.path).length = rs.length := List.length_map _
  rw [← hlm]
  exact Nat.le_antisymm (nodup_sub hn fun p hp => (h p).1 hp) (nodup_sub (Srt.ris_nodup (ris_paths hr)) fun p hp => (h p).2 hp)

set_option maxHeartbeats 8000000 in
set_option maxRecDepth 20000 in
theorem walk {rc st : Nat → BitVec 32} (w : World) (hg : Sum.Gl rc st w) (v : Value) (l : List Rec) (hr : Op.Recs (fun b => b < w.heap.size) w v l) (uv : Value) (us : List (ByteArray × Int)) (hu : Uses (fun b => b < w.heap.size) w uv us ∧ ∀ x ∈ us, x.2 < 9223372036854775808) (hb : Op.bulkR l + 2 * Op.bulkU us ≤ 2097152) :
    Calls Tryz.prog 10 #[v, uv] w fun e w' => e = .returned (.bool true) ∧ Below w.heap.size w w' := by
  have HR := Lib.hid hr
  have HG := Lib.hid hg
  have HU := Lib.hid hu.1
  have hbn := bulk_nore l
  have hfit : Fit (stockF rc st [] (l.map nore)) := fit_stock (by omega)
  have hnil : ∀ r ∈ stockF rc st [] (l.map nore), r.refs = [] := fun r h => by
    rcases mem_stock h with h | h
    · cases h
    · obtain ⟨x, _, rfl⟩ := List.mem_map.1 h; rfl
  have HB := Lib.hid (show Op.bulkR (l.map nore) ≤ 4194304 by omega)
  have HBL := Lib.hid (show ∀ r ∈ l, (nore r).bulk ≤ 4194304 from fun r h => by have h1 := bulkR_mem h; have h2 := nore_bulk r; omega)
  obtain ⟨rs, hrs⟩ : ∃ rs, stockF rc st [] (l.map nore) = rs := ⟨_, rfl⟩
  have HRS := Lib.hid hrs
  rw [hrs] at hfit hnil
  have HFIT := Lib.hid hfit
  have HNIL := Lib.hid hnil
  have HUL := Lib.hid (show us.length ≤ 2097152 by have := Op.bulkU_len us; omega)
  have HUS := Lib.hid (show ∀ x ∈ us, x.1.size ≤ 4194304 ∧ x.2 < 9223372036854775808 from fun x hx => ⟨by have := Op.bulkU_mem hx; omega, hu.2 x hx⟩)
  have hll := bulkR_len l
  have hnl : l.length ≤ 2097152 := by omega
  obtain ⟨nl, hnn⟩ : ∃ n, l.length = n := ⟨_, rfl⟩
  have HN := Lib.hid hnn
  obtain ⟨mu, hmu⟩ : ∃ n, us.length = n := ⟨_, rfl⟩
  have HM := Lib.hid hmu
  obtain ⟨ao2, cap2, rfl, _, _, _⟩ := hu.1
  obtain ⟨ao, cap, rfl, _, _, _⟩ := id hr
  have hul : us.length ≤ 2097152 := HUL.out
  rw [hnn] at hnl ⊢
  rw [hmu] at HU hul ⊢
  clear hr hg hu hb hbn hfit hnil hrs hll hnn hmu
  go_enter Tryz.func10, Tryz.ntmps10
  go_wp2_with fail
  refine (newC w).mono ?_
  rintro e w1 ⟨M, F, s, rfl, h1, hMF, b1⟩
  have H1 := Lib.hid h1
  have HMF := Lib.hid hMF
  clear h1 hMF
  go_wp2_with fail
  refine (awakeC19 rc st w1 (HG.out.below b1)).mono ?_
  rintro e w2 ⟨rfl, d2⟩
  have b2 := b1.trans (d2.mono b1.size)
  have H2 := Lib.hid (H1.out.below d2)
  clear d2
  go_wp2_with fail
  go_loopw [7, 28] (fun _ i wr => ∃ k : Nat, k ≤ nl ∧ i = .int .i64 k ∧ Hid (∃ M' F', Is M' F' wr s (stockF rc st [] ((l.map nore).take k)) ∧ ∀ b, M' b ∨ F' b → w.heap.size ≤ b) ∧ Below w.heap.size w wr) (fun _ i _ => nl - (intOf i).toNat)
  case atStart => exact ⟨0, Nat.zero_le _, rfl, Lib.hid ⟨M, F, H2.out, HMF.out⟩, b2⟩
  case round =>
    obtain ⟨k, hk, rfl, hst, br⟩ := hrel
    by_cases hlt : k < nl
    · have hkl : k < l.length := by rw [HN.out]; exact hlt
      obtain ⟨a2, c2, hv2, _, _, hel⟩ := HR.out.below br
      rcases hel with h0 | ⟨rb, ro, ha, _, hel⟩
      · rw [h0] at hkl; simp at hkl
      injection hv2 with e1 e2 e3
      rw [ha] at e1
      subst e1
      clear e2 e3
      obtain ⟨cs, hrg, hrec⟩ := hel k hkl
      have hcl := hrec.length
      have hoc := Tab.recOne hrec
      have hbkl := HBL.out l[k] (List.getElem_mem _)
      have hkm : k < (l.map nore).length := by rw [List.length_map]; exact hkl
      have hnx := stockF_take (rc := rc) (st := st) [] (l.map nore) k hkm
      rw [List.getElem_map] at hnx
      obtain ⟨r, hrr⟩ : ∃ r, l[k] = r := ⟨_, rfl⟩
      rw [hrr] at hrec hbkl hnx
      obtain ⟨kv, rv, hcs, hh, hkk, hrf⟩ := id hrec
      have HREC := Lib.hid (show RecAt (fun b => b < w.heap.size) wr (r.cells kv (.slice none 0 0)) (nore r) from rec_nore (by rw [← hcs]; exact hrec) hkk)
      have HCS := Lib.hid hcs
      have HNX := Lib.hid hnx
      have e0 : (0 : Int) ≤ (k : Int) := Int.natCast_nonneg _
      have e1 : (k : Int) < (nl : Int) := by omega
      have hl39 : (r.cells kv (.slice none 0 0)).length = 39 := HREC.out.length
      clear hel hrec ha hcs hrr hnx hrf hkk
      go_wp2_with (first
        | (refine wpList_load_mid rfl 31 _ (by rfl) rb (ro + k * 39) (by rfl) cs _ hrg Tryz.underlying31 rfl (by rw [hcl]; kernel_rfl) ?_)
        | (refine wpList_store_mid (by rfl) 31 _ _ (by rfl) wr.heap.size 0 cs.toArray (by rfl) (by rfl) ?h4 ?h5 ?h6 ?_; rotate_right; refine Mem.named ?_; intro W hW; have xW : RB W wr.heap.size r kv rv := ⟨by have := stash_bx hW (hcl.symm); rw [HCS.out] at this; exact this, hh⟩; have q5 := xW.c5; have f5 := xW.bx.frozen 5; have hrg3 := (xW.setR (.slice none 0 0)).range; have bW := stash hW; clear xW hW)
        | (refine wpList_load_mid rfl 31 _ (by rfl) wr.heap.size 0 (by rfl) (r.cells kv (.slice none 0 0)) _ hrg3 Tryz.underlying31 rfl (by rw [hl39]; kernel_rfl) ?_))
      case h4 => first | exact (Bx.new wr Ins.zeroRec.cells 31).there 39 rfl | exact (Bx.new wr Ins.zeroRec.cells 31).there _ (by rw [show cs.toArray.size = 39 by simpa using hcl]; rfl)
      case h5 => first | exact infoEx | (rw [List.size_toArray, hcl]; kernel_rfl)
      case h6 => first | exact hoc | exact all_oneCell_toArray hoc
      clear q5 f5 hrg3
      refine calls_named fun W2 hW2 => ?_
      have b2' : Below wr.heap.size wr W2 := by rw [← hW2]; exact bW.setCell (p := ⟨wr.heap.size, 5, none⟩) (Nat.le_refl _) _
      clear hW2 bW
      obtain ⟨M', F', his, hM'⟩ := hst.out
      have BW := br.trans (b2'.mono br.size)
      have hS := stk rc st ((l.map nore).take k) (by have := bulkR_take (l.map nore) k; have := HB.out; omega)
      have hlen := hS.len
      rw [List.length_take, List.length_map, HN.out] at hlen
      have HM' := Lib.hid hM'
      refine (insertC rc st M' F' (fun b => b < w.heap.size) s (stockF rc st [] ((l.map nore).take k)) (nore r) _ W2 (his.below b2') (HG.out.below BW) (HREC.out.below b2') (fun b hb => Nat.lt_of_lt_of_le hb BW.size) hS.good hbkl (by omega)).mono ?_
      rintro e w4 ⟨rfl, M2, F2, hi2, kp2, hM2, hF2⟩
      have HI2 := Lib.hid hi2
      have B2 := BW.trans (kp2.below BW.size (fun i hi hm => by have := HM'.out i (.inl hm); omega))
      have HMM := Lib.hid (show ∀ b, M2 b ∨ F2 b → w.heap.size ≤ b from fun b hb => by
        have hz := BW.size
        rcases hb with h | h
        · rcases hM2 b h with h | h
          · exact HM'.out b (.inl h)
          · omega
        · rcases hF2 b h with h | h
          · exact HM'.out b (.inr h)
          · omega)
      clear hi2 his hM' kp2 hM2 hF2 hst hrg
      go_wp2_with fail
      go_roundw
      case rel => exact ⟨k + 1, by omega, by go_num, Lib.hid ⟨M2, F2, by rw [HNX.out]; exact HI2.out, HMM.out⟩, B2⟩
      case measure => simp [intOf]; omega
    · have hkn : nl = k := by omega
      subst hkn
      obtain ⟨M', F', hi, hM'⟩ := hst.out
      rw [List.take_of_length_le (by rw [List.length_map, HN.out]; exact Nat.le_refl _), HRS.out] at hi
      have H3 := Lib.hid hi
      have HM3 := Lib.hid hM'
      have mk : (Instr.makeMap 67 none).run Tryz.prog wr = .ok (.map (some wr.heap.size)) (wr.alloc (.map #[] 0)) := run_makeMap _ wr
      obtain ⟨w4, hw4⟩ : ∃ W, wr.alloc (.map #[] 0) = W := ⟨_, rfl⟩
      have HIN := Lib.hid (show InG (sizeP rs) w4 wr.heap.size [] by rw [← hw4]; exact Mp.InG.made _ wr)
      have b4 : Below wr.heap.size wr w4 := by rw [← hw4]; exact (Below.refl _ wr).alloc (Nat.le_refl _) _
      rw [hw4] at mk
      have br4 := br.trans (b4.mono br.size)
      obtain ⟨bm, hbm⟩ : ∃ bm, wr.heap.size = bm := ⟨_, rfl⟩
      have hzm : w.heap.size ≤ bm := by rw [← hbm]; exact br.size
      have HMX := Lib.hid (show ∀ b, M' b ∨ F' b → b < bm from fun b hb => by rw [← hbm]; exact hi.lt b hb)
      rw [hbm] at HIN mk
      have H4 := Lib.hid (H3.out.below b4)
      clear hw4 hi hM' hst hk hlt hbm b4
      go_wp2_with fail
      clear mk
      refine (allC M' F' s rs w4 H4.out HFIT.out.len HFIT.out.bulk).mono ?_
      rintro e w5 ⟨v5, rfl, hrec5, b5⟩
      have HR5 := Lib.hid hrec5
      obtain ⟨a5, k5, rfl, _, _, _⟩ := hrec5
      have br5 := br4.trans (b5.mono br4.size)
      have HIN5 := Lib.hid (HIN.out.below b5)
      have H5 := Lib.hid (H4.out.below b5)
      obtain ⟨n, hn⟩ : ∃ n, rs.length = n := ⟨_, rfl⟩
      have HNN := Lib.hid hn
      have hnl5 : n ≤ 1048576 := by rw [← hn]; exact HFIT.out.len
      rw [hn] at HR5 ⊢
      have hbm5 : bm < w5.heap.size := HIN5.out.lt
      have HSB := Lib.hid (show ∀ b, w4.heap.size ≤ b ∧ b < w5.heap.size → b ≠ bm from fun b hb e => by have := HIN.out.lt; omega)
      clear hn
      go_wp2_with fail
      generalize wr = wq at *
      go_loopw [10, 41] (fun _ i wr => ∃ k : Nat, k ≤ n ∧ i = .int .i64 k ∧ Hid (∃ L, InG (sizeP rs) wr bm L ∧ ∀ p, p ∈ L ↔ p ∈ (rs.map Rec.path).take k) ∧ Hid (Kp (fun b => b = bm) w5 wr)) (fun _ i _ => n - (intOf i).toNat)
      case atStart => exact ⟨0, Nat.zero_le _, rfl, Lib.hid ⟨[], HIN5.out, fun p => by simp⟩, Lib.hid (Kp.refl _ _)⟩
      case round =>
        obtain ⟨k, hk, rfl, HI, HKP⟩ := hrel
        by_cases hlt : k < n
        · have hkl : k < rs.length := by rw [HNN.out]; exact hlt
          have hRW : Op.Recs (fun b => w4.heap.size ≤ b ∧ b < w5.heap.size) wr (.slice a5 rs.length k5) rs := by
            have h : Op.Recs (fun b => w4.heap.size ≤ b ∧ b < w5.heap.size) w5 (.slice a5 rs.length k5) rs := by rw [HNN.out]; exact HR5.out
            exact h.ag (Ag.of_kp HKP.out (fun b _ hS e => HSB.out b hS e))
          obtain ⟨a2, c2, hv2, _, _, hel⟩ := hRW
          rcases hel with h0 | ⟨rb, ro, ha, _, hel⟩
          · rw [h0] at hkl; simp at hkl
          injection hv2 with e1 e2 e3
          rw [ha] at e1
          subst e1
          clear e2 e3
          obtain ⟨cs, hrg, hrec⟩ := hel k hkl
          have hcl := hrec.length
          have hoc := Tab.recOne hrec
          have hmr := List.getElem_mem hkl
          have htk : ∀ p, p ∈ (rs.map Rec.path).take (k + 1) ↔ p ∈ (rs.map Rec.path).take k ∨ p = rs[k].path := fun p => by
            rw [List.take_succ_eq_append_getElem (by rw [List.length_map]; exact hkl), List.mem_append, List.mem_singleton, List.getElem_map]
          obtain ⟨r, hrr⟩ : ∃ r, rs[k] = r := ⟨_, rfl⟩
          rw [hrr] at hrec hmr htk
          have hps := HFIT.out.paths r hmr
          have hsz : sizeP rs r.path = r.size := by unfold sizeP; rw [Sp.get_of_mem HFIT.out.rise hmr]
          obtain ⟨kv, rv, hcs, hh, _, _⟩ := hrec
          have HCS := Lib.hid hcs
          obtain ⟨q, hq⟩ : ∃ q, r.path = q := ⟨_, rfl⟩
          obtain ⟨z, hz⟩ : ∃ z, r.size = z := ⟨_, rfl⟩
          have HQ := Lib.hid hq
          have HZZ := Lib.hid hz
          rw [hq] at hps hsz htk
          rw [hz] at hsz
          obtain ⟨L, hin, hL⟩ := HI.out
          have hLl : L.length ≤ 1048576 := by
            have h1 := nodup_sub hin.nodup (m := rs.map Rec.path) (fun p hp => List.mem_of_mem_take ((hL p).1 hp))
            rw [List.length_map] at h1
            exact Nat.le_trans h1 HFIT.out.len
          have hbw : bm < wr.heap.size := hin.lt
          have HSTEP := Lib.hid (show ∀ W, (wr.alloc (.cells Ins.zeroRec.cells 31)).setCells wr.heap.size 0 cs = W → W.cell? ⟨wr.heap.size, 0, none⟩ = some (.string q) ∧ W.cell? ⟨wr.heap.size, 38, none⟩ = some (.int .i64 z) ∧ ∃ w7, (Instr.mapUpdate 67 (.map (some bm)) (.string q) (.int .i64 z)).run Tryz.prog W = .ok () w7 ∧ Hid ((∃ L, InG (sizeP rs) w7 bm L ∧ ∀ p, p ∈ L ↔ p ∈ (rs.map Rec.path).take (k + 1)) ∧ Hid (Kp (fun b => b = bm) w5 w7)) from fun W hW => by
            have x2 : RB W wr.heap.size r kv rv := ⟨by have := stash_bx hW (hcl.symm); rw [HCS.out] at this; exact this, hh⟩
            have bW : Below wr.heap.size wr W := stash hW
            obtain ⟨w7, hrun, hin7, hg7, hs7⟩ := (hin.below bW).store (by unfold maxLen; omega) (k := q) (by unfold maxLen; omega)
            rw [hsz] at hrun
            have k0 := x2.c0
            have k8 := x2.c38
            rw [HQ.out] at k0
            rw [HZZ.out] at k8
            exact ⟨k0, k8, w7, hrun, Lib.hid ⟨⟨_, hin7, fun p => by rw [mem_add, hL, htk]⟩, Lib.hid ((HKP.out.then (Kp.of_below bW)).then (Kp.of_grown hg7 (fun r e _ => (Option.some.inj e).symm)))⟩⟩)
          have e0 : (0 : Int) ≤ (k : Int) := Int.natCast_nonneg _
          have e1 : (k : Int) < (n : Int) := by omega
          clear hel ha hrr hmr htk hps hsz hcs hq hz hin hL hLl HI hh hkl
          go_wp2_with (first
            | (refine wpList_load_mid rfl 31 _ (by rfl) rb (ro + k * 39) (by rfl) cs _ hrg Tryz.underlying31 rfl (by rw [hcl]; kernel_rfl) ?_)
            | (refine wpList_store_mid (by rfl) 31 _ _ (by rfl) wr.heap.size 0 cs.toArray (by rfl) (by rfl) ?h4 ?h5 ?h6 ?_; rotate_right; refine Mem.named ?_; intro W hW; obtain ⟨y0, y1, w7, hrun, HC7⟩ := HSTEP.out W hW; clear hW))
          case h4 => first | exact (Bx.new wr Ins.zeroRec.cells 31).there 39 rfl | exact (Bx.new wr Ins.zeroRec.cells 31).there _ (by rw [show cs.toArray.size = 39 by simpa using hcl]; rfl)
          case h5 => first | exact infoEx | (rw [List.size_toArray, hcl]; kernel_rfl)
          case h6 => first | exact hoc | exact all_oneCell_toArray hoc
          go_roundw
          case rel => exact ⟨k + 1, by omega, by go_num, Lib.hid HC7.out.1, HC7.out.2⟩
          case measure => simp [intOf]; omega
        · have hkn : n = k := by omega
          subst hkn
          obtain ⟨L, hin, hL⟩ := HI.out
          have HIN6 := Lib.hid hin
          have hLn : L.length = n := by
            rw [← HNN.out]
            exact same_len HFIT.out.rise hin.nodup (fun p => by rw [hL, List.take_of_length_le (by rw [List.length_map, HNN.out]; exact Nat.le_refl _)])
          have HLN := Lib.hid hLn
          have HLM := Lib.hid (show ∀ p, p ∈ L ↔ p ∈ rs.map Rec.path from fun p => by rw [hL, List.take_of_length_le (by rw [List.length_map, HNN.out]; exact Nat.le_refl _)])
          have H6 := Lib.hid (H5.out.kp HKP.out (fun b hb e => by have := HMX.out b (.inl hb); omega) (fun b hb e => by have := HMX.out b (.inr hb); omega))
          have B6 : Below w.heap.size w wr := br5.trans (HKP.out.below br5.size (fun i hi e => by omega))
          have hbw : bm < wr.heap.size := hin.lt
          have mk : (Instr.makeMap 67 none).run Tryz.prog wr = .ok (.map (some wr.heap.size)) (wr.alloc (.map #[] 0)) := run_makeMap _ wr
          obtain ⟨w7, hw7⟩ : ∃ W, wr.alloc (.map #[] 0) = W := ⟨_, rfl⟩
          have HCM := Lib.hid (show Cm w7 wr.heap.size 0 (fun _ => 0) by rw [← hw7]; exact Cm.made wr)
          have b7 : Below wr.heap.size wr w7 := by rw [← hw7]; exact (Below.refl _ wr).alloc (Nat.le_refl _) _
          rw [hw7] at mk
          obtain ⟨bc, hbc⟩ : ∃ bc, wr.heap.size = bc := ⟨_, rfl⟩
          have B7 := B6.trans (b7.mono B6.size)
          have HIN7 := Lib.hid (HIN6.out.below b7)
          have H7 := Lib.hid (H6.out.below b7)
          have hbcm : bm < bc := by omega
          have hzc : w.heap.size ≤ bc := by omega
          rw [hbc] at HCM mk
          clear hw7 hin hL hLn HI hk hlt hbc b7
          go_wp2_with fail
          clear mk
          generalize wr = wq2 at *
          go_loopw [13, 54] (fun _ i wr => ∃ k : Nat, k ≤ mu ∧ i = .int .i64 k ∧ Hid (Cm wr bc k (cntF (us.take k)) ∧ Kp (fun b => b = bc) w7 wr) ∧ Below w.heap.size w wr) (fun _ i _ => mu - (intOf i).toNat)
          case atStart => exact ⟨0, Nat.zero_le _, rfl, Lib.hid ⟨HCM.out, Kp.refl _ _⟩, B7⟩
          case round =>
            obtain ⟨k, hk, rfl, HC, br⟩ := hrel
            by_cases hlt : k < mu
            · obtain ⟨rb, ro, rcap, hrv, hcells⟩ := uses_at (HU.out.below br) (by rw [HM.out]; omega)
              injection hrv with hrv1 hrv2 hrv3
              subst hrv1
              clear hrv2 hrv3
              have hkl : k < us.length := by rw [HM.out]; exact hlt
              obtain ⟨gk1, gk2⟩ := hcells k hkl
              obtain ⟨hz1, hz2⟩ := HUS.out us[k] (List.getElem_mem _)
              have hsn := cntF_snoc (us.take k) us[k]
              rw [← List.take_succ_eq_append_getElem hkl] at hsn
              obtain ⟨q, hq⟩ : ∃ q, us[k].1 = q := ⟨_, rfl⟩
              obtain ⟨c, hcc⟩ : ∃ c, us[k].2 = c := ⟨_, rfl⟩
              rw [hq] at gk1 hz1 hsn
              rw [hcc] at gk2 hz2 hsn
              have HSN := Lib.hid hsn
              have e0 : (0 : Int) ≤ (k : Int) := Int.natCast_nonneg _
              have e1 : (k : Int) < (mu : Int) := by omega
              clear hcells hq hcc hsn hkl
              have HSTEP := Lib.hid (show ∀ W, (wr.alloc (.cells Z2 81)).setCells wr.heap.size 0 [.string q, .int .i64 c] = W → W.cell? ⟨wr.heap.size, 0, none⟩ = some (.string q) ∧ W.cell? ⟨wr.heap.size, 1, none⟩ = some (.int .i64 c) ∧ ∃ w8, (Instr.mapUpdate 67 (.map (some bc)) (.string q) (.int .i64 c)).run Tryz.prog W = .ok () w8 ∧ Hid ((Cm w8 bc (k + 1) (cntF (us.take (k + 1))) ∧ Kp (fun b => b = bc) w7 w8) ∧ Below w.heap.size w w8) from fun W hW => by
                have x2 : Bx W wr.heap.size #[.string q, .int .i64 c] 81 := by rw [← hW]; exact bx_over (Bx.new wr Z2 81) rfl
                have b2 : Below wr.heap.size wr W := stash hW
                obtain ⟨w8, hrun, hcm7, hg7, hs7⟩ := (HC.out.1.below b2).store (by unfold maxLen; omega) (k := q) (by unfold maxLen; omega) c
                have br2 := br.trans (b2.mono br.size)
                refine ⟨x2.cell 0, x2.cell 1, w8, hrun, Lib.hid ⟨⟨?_, (HC.out.2.then (Kp.of_below b2)).then (Kp.of_grown hg7 (fun r e _ => (Option.some.inj e).symm))⟩, br2.grown hg7 br2.size (fun k e => by cases e; exact hzc)⟩⟩
                rw [HSN.out]; exact hcm7)
              have hthere : (wr.alloc (.cells Z2 81)).there wr.heap.size 0 2 := (Bx.new wr Z2 81).there 2 rfl
              go_wp2_with (refine wpList_store_mid (by rfl) 81 _ _ (by rfl) wr.heap.size 0 #[.string q, .int .i64 c] (by rfl) (by rfl) hthere infoUse (by simp [Value.oneCell']) ?_; refine Mem.named ?_; intro W hW; obtain ⟨c0, c1, w8, hrun, HC7⟩ := HSTEP.out W hW; clear hW)
              go_roundw
              case rel => exact ⟨k + 1, by omega, by go_num, Lib.hid HC7.out.1, HC7.out.2⟩
              case measure => simp [intOf]; omega
            · have hkm : mu = k := by omega
              subst hkm
              have hC := HC.out.1
              rw [List.take_of_length_le (by rw [HM.out]; exact Nat.le_refl _)] at hC
              have HC8 := Lib.hid hC
              have hkp := HC.out.2
              have HIN8 := Lib.hid (HIN7.out.block (hkp.block bm HIN7.out.lt (fun e => by omega)))
              have H8 := Lib.hid (H7.out.kp hkp (fun b hb e => by have := HMX.out b (.inl hb); omega) (fun b hb e => by have := HMX.out b (.inr hb); omega))
              have HU8 := Lib.hid ((HU.out.below br).sub (S' := fun b => b < wr.heap.size) (fun b h _ => h))
              clear hC hkp HC hk hlt
              go_wp2_with fail
              refine (collectF M' F' s rs (.slice none 0 0) [] _ us 4611686018427387904 wr H8.out HFIT.out (Strs.nil _ _) (by simp) (by rw [← HM.out] at HU8 ⊢; exact HU8.out) HUL.out HUS.out).mono ?_
              rintro e w9 ⟨f, v9, N9, hfin, rfl, hrow, his, kp9, hsub⟩
              obtain ⟨hrs0, hol, hond, hoin, hord⟩ := all_gone HFIT.out HNIL.out hfin
              rw [HNN.out] at hol
              rw [hrs0] at his
              have HORD := Lib.hid hord
              have HOIN := Lib.hid hoin
              have HOND := Lib.hid hond
              have HOL := Lib.hid hol
              have B9 := br.trans (kp9.below br.size (fun i hi hm => by have := HM3.out i (.inl hm); omega))
              have HC9 := Lib.hid (HC8.out.kp kp9 (fun hm => by have := HMX.out bc (.inl hm); omega))
              have HIN9 := Lib.hid (HIN8.out.block (kp9.block bm HIN8.out.lt (fun hm => by have := HMX.out bm (.inl hm); omega)))
              have HI9 := Lib.hid his
              obtain ⟨a9, k9, rfl⟩ := Tab.own_len hrow
              rw [hol] at hrow ⊢
              have HROW := Lib.hid hrow
              have tn : ((n : Int) == (n : Int)) = true := by simp
              have hLe := lenC N9 F' s [] w9 HI9.out
              clear hfin hrs0 hol hond hoin hord his kp9 hsub hrow
              go_wp2_with (at_len; refine Mp.wpList_len_g rfl _ rfl bm L rfl HIN9.out ?_; rw [HLN.out])
              refine hLe.mono ?_
              rintro e wz ⟨rfl, hwz⟩
              obtain rfl := hwz.symm
              clear hLe
              go_wp2_with fail
              clear tn
              generalize wr = wq3 at *
              go_loopw [16, 17, 18] (fun x16 _ _ wr => ∃ z : Nat, 1 ≤ z ∧ (z ≤ n ∨ z = 1) ∧ x16 = .int .i64 z ∧ Below w9.heap.size w9 wr) (fun x16 _ _ _ => n - (intOf x16).toNat)
              case atStart => exact ⟨1, Nat.le_refl _, .inr rfl, rfl, Below.refl _ _⟩
              case round =>
                obtain ⟨z, hz1, hz2, rfl, bz⟩ := hrel
                by_cases hlt : z < n
                · obtain ⟨k, hkz⟩ : ∃ k, z = k + 1 := ⟨z - 1, by omega⟩
                  have hst : Strs (fun b => wq3.heap.size ≤ b) wr (.slice a9 n k9) f.out := by
                    have h := Copy.own_below HROW.out bz
                    rw [← HOL.out] at h ⊢
                    exact Strs.of_own h
                  obtain ⟨rb, ro, rcap, hrv, hcells⟩ := strs_at hst (by rw [HOL.out]; omega)
                  rw [HOL.out] at hrv
                  injection hrv with hrv1 hrv2 hrv3
                  subst hrv1
                  clear hrv2 hrv3
                  have hk1 : k < f.out.length := by rw [HOL.out]; omega
                  have hk2 : k + 1 < f.out.length := by rw [HOL.out]; omega
                  have ga := hcells k hk1
                  have gb := hcells (k + 1) hk2
                  obtain ⟨ra, hra⟩ := HOIN.out f.out[k] (List.getElem_mem _)
                  obtain ⟨rb', hrb⟩ := HOIN.out f.out[k + 1] (List.getElem_mem _)
                  have hbst := HORD.out k hk2 ra rb' hra hrb
                  have hne : f.out[k] ≠ f.out[k + 1] := by
                    have h := HOND.out
                    rw [List.nodup_iff_pairwise_ne, List.pairwise_iff_getElem] at h
                    exact h k (k + 1) hk1 hk2 (by omega)
                  have sa : sizeP rs f.out[k] = ra.size := by unfold sizeP; rw [hra]
                  have sb : sizeP rs f.out[k + 1] = rb'.size := by unfold sizeP; rw [hrb]
                  have ma := Sp.get_some hra
                  have mb := Sp.get_some hrb
                  have za := HFIT.out.small ra ma.1
                  have zb := HFIT.out.small rb' mb.1
                  have pa9 := HFIT.out.paths ra ma.1
                  have pb9 := HFIT.out.paths rb' mb.1
                  have la := (HIN9.out.below bz).look (k := f.out[k]) (by rw [← ma.2]; unfold maxLen; omega)
                  have lb := (HIN9.out.below bz).look (k := f.out[k + 1]) (by rw [← mb.2]; unfold maxLen; omega)
                  rw [if_pos (Mp.hasL_iff.2 ((HLM.out _).2 (by rw [← ma.2]; exact List.mem_map_of_mem ma.1))), sa] at la
                  rw [if_pos (Mp.hasL_iff.2 ((HLM.out _).2 (by rw [← mb.2]; exact List.mem_map_of_mem mb.1))), sb] at lb
                  have ca := (HC9.out.below bz).look (k := f.out[k]) (by rw [← ma.2]; unfold maxLen; omega)
                  have cb := (HC9.out.below bz).look (k := f.out[k + 1]) (by rw [← mb.2]; unfold maxLen; omega)
                  have hca := cntF_bound (us := us) (fun x hx => (HUS.out x hx).2) f.out[k]
                  have hcb := cntF_bound (us := us) (fun x hx => (HUS.out x hx).2) f.out[k + 1]
                  unfold bst sco at hbst
                  rw [ma.2, mb.2] at hbst
                  obtain ⟨pa, hpa⟩ : ∃ pa, f.out[k] = pa := ⟨_, rfl⟩
                  obtain ⟨pb, hpb⟩ : ∃ pb, f.out[k + 1] = pb := ⟨_, rfl⟩
                  obtain ⟨xa, hxa⟩ : ∃ xa, ra.size = xa := ⟨_, rfl⟩
                  obtain ⟨xb, hxb⟩ : ∃ xb, rb'.size = xb := ⟨_, rfl⟩
                  rw [hpa] at ga la ca hca hbst hne
                  rw [hpb] at gb lb cb hcb hbst hne
                  rw [hxa] at la za hbst
                  rw [hxb] at lb zb hbst
                  obtain ⟨ya, hya⟩ : ∃ ya, cntF us pa = ya := ⟨_, rfl⟩
                  obtain ⟨yb, hyb⟩ : ∃ yb, cntF us pb = yb := ⟨_, rfl⟩
                  rw [hya] at ca hca hbst
                  rw [hyb] at cb hcb hbst
                  have hxa9 : xa < 9223372036854775808 := by omega
                  have hxb9 : xb < 9223372036854775808 := by omega
                  have ka := (comes xa ya hxa9 hca).2
                  have kb := (comes xb yb hxb9 hcb).2
                  have oab := ord_lt ka kb
                  have oeq := ord_eq ka kb
                  have hSa := fun W => scoreC xa ya W hxa9 hca
                  have hSb := fun W => scoreC xb yb W hxb9 hcb
                  obtain ⟨A, hA⟩ : ∃ A, scoreN xa ya = A := ⟨_, rfl⟩
                  obtain ⟨B, hB⟩ : ∃ B, scoreN xb yb = B := ⟨_, rfl⟩
                  rw [hA] at oab oeq hSa hbst
                  rw [hB] at oab oeq hSb hbst
                  have hAB : decide (A < B) = false ∧ (A = B → Sp.lt pa pb = true) := by
                    unfold Swp.ahead at hbst
                    by_cases e : B = A
                    · rw [if_pos e] at hbst
                      refine ⟨decide_eq_false (by omega), fun _ => ?_⟩
                      cases hh : Sp.lt pa pb with
                      | true => rfl
                      | false => exact absurd (Sp.lt_tri hh hbst) hne
                    · rw [if_neg e] at hbst
                      exact ⟨hbst, fun e2 => absurd e2.symm e⟩
                  rw [hAB.1] at oab
                  have hws : IntKind.i64.wrap ((z : Int) - 1) = (k : Int) := by rw [IntKind.wrap_i64]; omega
                  have hz0 : (0 : Int) ≤ (z : Int) := Int.natCast_nonneg _
                  have hk0 : (0 : Int) ≤ (k : Int) := Int.natCast_nonneg _
                  have hkn : (k : Int) < (n : Int) := by omega
                  have hzn : (z : Int) < (n : Int) := by omega
                  rw [← hkz] at gb
                  have hS0 : wr.drew.cell? ⟨rb, ro + k, none⟩ = some (.string pa) ∧ wr.drew.cell? ⟨rb, ro + z, none⟩ = some (.string pb) ∧ (Instr.lookup 67 (.map (some bm)) (.string pa) false).run Tryz.prog wr.drew = .ok (.int .i64 xa) wr.drew ∧ (Instr.lookup 67 (.map (some bm)) (.string pb) false).run Tryz.prog wr.drew = .ok (.int .i64 xb) wr.drew ∧ (Instr.lookup 67 (.map (some bc)) (.string pa) false).run Tryz.prog wr.drew = .ok (.int .i64 ya) wr.drew ∧ (Instr.lookup 67 (.map (some bc)) (.string pb) false).run Tryz.prog wr.drew = .ok (.int .i64 yb) wr.drew := by
                    have bzd := bz.trans ((Below.refl wr.heap.size wr).drew.mono bz.size)
                    have la2 := (HIN9.out.below bzd).look (k := pa) (by rw [← hpa, ← ma.2]; unfold maxLen; omega)
                    have lb2 := (HIN9.out.below bzd).look (k := pb) (by rw [← hpb, ← mb.2]; unfold maxLen; omega)
                    rw [← hpa, if_pos (Mp.hasL_iff.2 ((HLM.out _).2 (by rw [← ma.2]; exact List.mem_map_of_mem ma.1))), sa, hpa, hxa] at la2
                    rw [← hpb, if_pos (Mp.hasL_iff.2 ((HLM.out _).2 (by rw [← mb.2]; exact List.mem_map_of_mem mb.1))), sb, hpb, hxb] at lb2
                    have ca2 := (HC9.out.below bzd).look (k := pa) (by rw [← hpa, ← ma.2]; unfold maxLen; omega)
                    have cb2 := (HC9.out.below bzd).look (k := pb) (by rw [← hpb, ← mb.2]; unfold maxLen; omega)
                    rw [hya] at ca2
                    rw [hyb] at cb2
                    exact ⟨ga, gb, la2, lb2, ca2, cb2⟩
                  have HAB := Lib.hid hAB
                  clear hcells hk1 hk2 hra hrb hbst hne sa sb ma mb za zb pa9 pb9 la lb ca cb hca hcb hpa hpb hxa hxb hya hyb hxa9 hxb9 ka kb hA hB hst hkz hAB ga gb
                  go_wp2_with fail
                  refine wp_region_held_drew (S := fun W' => W'.cell? ⟨rb, ro + k, none⟩ = some (.string pa) ∧ W'.cell? ⟨rb, ro + z, none⟩ = some (.string pb) ∧ (Instr.lookup 67 (.map (some bm)) (.string pa) false).run Tryz.prog W' = .ok (.int .i64 xa) W' ∧ (Instr.lookup 67 (.map (some bm)) (.string pb) false).run Tryz.prog W' = .ok (.int .i64 xb) W' ∧ (Instr.lookup 67 (.map (some bc)) (.string pa) false).run Tryz.prog W' = .ok (.int .i64 ya) W' ∧ (Instr.lookup 67 (.map (some bc)) (.string pb) false).run Tryz.prog W' = .ok (.int .i64 yb) W') (by kernel_rfl) hS0 (fun hHeld => ?_)
                  refine wpAnyH_take (i := 0) (v := ?_) rfl (by kernel_rfl) (by kernel_rfl) (by kernel_rfl) (fun _ _ _ h => h) (Or.inl ⟨by rfl, ?_⟩) (by assumption) ?_
                  rotate_left
                  · (intro w hSw; go_simp; try with_reducible rfl)
                  simp only [Act.put, List.setIfInBounds_toArray, List.set_cons_zero, List.set_cons_succ]
                  refine wpAnyH_take (i := 1) (v := ?_) rfl (by kernel_rfl) (by kernel_rfl) (by kernel_rfl) (fun _ _ _ h => h) (Or.inl ⟨by rfl, ?_⟩) (by assumption) ?_
                  rotate_left
                  · (intro w hSw; go_simp; try with_reducible rfl)
                  simp only [Act.put, List.setIfInBounds_toArray, List.set_cons_zero, List.set_cons_succ]
                  refine wpAnyH_take (i := 2) (v := ?_) rfl (by kernel_rfl) (by kernel_rfl) (by kernel_rfl) (fun _ _ _ h => h) (Or.inl ⟨by rfl, ?_⟩) (by assumption) ?_
                  rotate_left
                  · (intro w hSw; go_simp; try with_reducible rfl)
                  simp only [Act.put, List.setIfInBounds_toArray, List.set_cons_zero, List.set_cons_succ]
                  refine wpAnyH_take (i := 3) (v := ?_) rfl (by kernel_rfl) (by kernel_rfl) (by kernel_rfl) (fun _ _ _ h => h) (Or.inl ⟨by rfl, ?_⟩) (by assumption) ?_
                  rotate_left
                  · (intro w hSw; go_simp; try with_reducible rfl)
                  simp only [Act.put, List.setIfInBounds_toArray, List.set_cons_zero, List.set_cons_succ]
                  refine wpAnyH_take (i := 4) (v := ?_) rfl (by kernel_rfl) (by kernel_rfl) (by kernel_rfl) (fun _ _ _ h => h) (Or.inl ⟨by rfl, ?_⟩) (by assumption) ?_
                  rotate_left
                  · (intro w hSw; go_simp; try with_reducible rfl)
                  simp only [Act.put, List.setIfInBounds_toArray, List.set_cons_zero, List.set_cons_succ]
                  refine wpAnyH_take (i := 5) (v := ?_) rfl (by kernel_rfl) (by kernel_rfl) (by kernel_rfl) (fun _ _ _ h => h) (Or.inl ⟨by rfl, ?_⟩) (by assumption) ?_
                  rotate_left
                  · (intro w hSw; go_simp; try with_reducible rfl)
                  simp only [Act.put, List.setIfInBounds_toArray, List.set_cons_zero, List.set_cons_succ]
                  refine wpAnyH_take (i := 6) (v := ?_) rfl (by kernel_rfl) (by kernel_rfl) (by kernel_rfl) (fun _ _ _ h => h) (Or.inl ⟨by rfl, ?_⟩) (by assumption) ?_
                  rotate_left
                  · (intro w hSw; go_simp; try with_reducible rfl)
                  simp only [Act.put, List.setIfInBounds_toArray, List.set_cons_zero, List.set_cons_succ]
                  refine wpAnyH_take (i := 7) (v := ?_) rfl (by kernel_rfl) (by kernel_rfl) (by kernel_rfl) (fun _ _ _ h => h) (Or.inl ⟨by rfl, ?_⟩) (by assumption) ?_
                  rotate_left
                  · (intro w hSw; go_simp; try with_reducible rfl)
                  simp only [Act.put, List.setIfInBounds_toArray, List.set_cons_zero, List.set_cons_succ]
                  refine wpAnyH_take (i := 8) (v := ?_) rfl (by kernel_rfl) (by kernel_rfl) (by kernel_rfl) (fun _ _ _ h => h) (Or.inl ⟨by rfl, ?_⟩) (by assumption) ?_
                  rotate_left
                  · (intro w hSw; go_simp; try with_reducible rfl)
                  simp only [Act.put, List.setIfInBounds_toArray, List.set_cons_zero, List.set_cons_succ]
                  refine wpAnyH_take (i := 9) (v := ?_) rfl (by kernel_rfl) (by kernel_rfl) (by kernel_rfl) (fun _ _ _ h => h) (Or.inl ⟨by rfl, ?_⟩) (by assumption) ?_
                  rotate_left
                  · (intro w hSw; go_simp; try with_reducible rfl)
                  simp only [Act.put, List.setIfInBounds_toArray, List.set_cons_zero, List.set_cons_succ]
                  refine wpAnyH_take (i := 10) (v := ?_) rfl (by kernel_rfl) (by kernel_rfl) (by kernel_rfl) (fun _ _ _ h => h) (Or.inl ⟨by rfl, ?_⟩) (by assumption) ?_
                  rotate_left
                  · (intro w hSw; go_simp; try with_reducible rfl)
                  simp only [Act.put, List.setIfInBounds_toArray, List.set_cons_zero, List.set_cons_succ]
                  refine wpAnyH_take (i := 11) (v := ?_) rfl (by kernel_rfl) (by kernel_rfl) (by kernel_rfl) (fun _ _ _ h => h) (Or.inl ⟨by rfl, ?_⟩) (by assumption) ?_
                  rotate_left
                  · (intro w hSw; go_simp; try with_reducible rfl)
                  simp only [Act.put, List.setIfInBounds_toArray, List.set_cons_zero, List.set_cons_succ]
                  refine wpAnyH_take (i := 12) (v := ?_) rfl (by kernel_rfl) (by kernel_rfl) (by kernel_rfl) (fun _ _ _ h => h) (Or.inl ⟨by rfl, ?_⟩) (by assumption) ?_
                  rotate_left
                  · (intro w hSw; go_simp; try with_reducible rfl)
                  simp only [Act.put, List.setIfInBounds_toArray, List.set_cons_zero, List.set_cons_succ]
                  refine wpAnyH_take (i := 13) (v := ?_) rfl (by kernel_rfl) (by kernel_rfl) (by kernel_rfl) (fun _ _ _ h => h) (Or.inl ⟨by rfl, ?_⟩) (by assumption) ?_
                  rotate_left
                  · (intro w hSw; go_simp; try with_reducible rfl)
                  simp only [Act.put, List.setIfInBounds_toArray, List.set_cons_zero, List.set_cons_succ]
                  refine wpAnyH_take (i := 15) (v := ?_) rfl (by kernel_rfl) (by kernel_rfl) (by kernel_rfl) (fun _ _ _ h => h) (Or.inl ⟨by rfl, ?_⟩) (by assumption) ?_
                  rotate_left
                  · (intro w hSw; go_simp; try with_reducible rfl)
                  simp only [Act.put, List.setIfInBounds_toArray, List.set_cons_zero, List.set_cons_succ]
                  refine wpAnyH_take (i := 16) (v := ?_) rfl (by kernel_rfl) (by kernel_rfl) (by kernel_rfl) (fun _ _ _ h => h) (Or.inl ⟨by rfl, ?_⟩) (by assumption) ?_
                  rotate_left
                  · (intro w hSw; go_simp; try with_reducible rfl)
                  simp only [Act.put, List.setIfInBounds_toArray, List.set_cons_zero, List.set_cons_succ]
                  refine wpAnyH_take (i := 17) (v := ?_) rfl (by kernel_rfl) (by kernel_rfl) (by kernel_rfl) (fun _ _ _ h => h) (Or.inl ⟨by rfl, ?_⟩) (by assumption) ?_
                  rotate_left
                  · (intro w hSw; go_simp; try with_reducible rfl)
                  simp only [Act.put, List.setIfInBounds_toArray, List.set_cons_zero, List.set_cons_succ]
                  refine wpAnyH_take (i := 18) (v := ?_) rfl (by kernel_rfl) (by kernel_rfl) (by kernel_rfl) (fun _ _ _ h => h) (Or.inl ⟨by rfl, ?_⟩) (by assumption) ?_
                  rotate_left
                  · (intro w hSw; go_simp; try with_reducible rfl)
                  simp only [Act.put, List.setIfInBounds_toArray, List.set_cons_zero, List.set_cons_succ]
                  refine wpAnyH_take (i := 19) (v := ?_) rfl (by kernel_rfl) (by kernel_rfl) (by kernel_rfl) (fun _ _ _ h => h) (Or.inl ⟨by rfl, ?_⟩) (by assumption) ?_
                  rotate_left
                  · (intro w hSw; go_simp; try with_reducible rfl)
                  simp only [Act.put, List.setIfInBounds_toArray, List.set_cons_zero, List.set_cons_succ]
                  refine wpAnyH_take (i := 20) (v := ?_) rfl (by kernel_rfl) (by kernel_rfl) (by kernel_rfl) (fun _ _ _ h => h) (Or.inl ⟨by rfl, ?_⟩) (by assumption) ?_
                  rotate_left
                  · (intro w hSw; go_simp; try with_reducible rfl)
                  simp only [Act.put, List.setIfInBounds_toArray, List.set_cons_zero, List.set_cons_succ]
                  refine wpAnyH_take (i := 21) (v := ?_) rfl (by kernel_rfl) (by kernel_rfl) (by kernel_rfl) (fun _ _ _ h => h) (Or.inl ⟨by rfl, ?_⟩) (by assumption) ?_
                  rotate_left
                  · (intro w hSw; go_simp; try with_reducible rfl)
                  simp only [Act.put, List.setIfInBounds_toArray, List.set_cons_zero, List.set_cons_succ]
                  refine wpAnyH_take (i := 22) (v := ?_) rfl (by kernel_rfl) (by kernel_rfl) (by kernel_rfl) (fun _ _ _ h => h) (Or.inl ⟨by rfl, ?_⟩) (by assumption) ?_
                  rotate_left
                  · (intro w hSw; go_simp; try with_reducible rfl)
                  simp only [Act.put, List.setIfInBounds_toArray, List.set_cons_zero, List.set_cons_succ]
                  refine wpAnyH_take (i := 23) (v := ?_) rfl (by kernel_rfl) (by kernel_rfl) (by kernel_rfl) (fun _ _ _ h => h) (Or.inl ⟨by rfl, ?_⟩) (by assumption) ?_
                  rotate_left
                  · (intro w hSw; go_simp; try with_reducible rfl)
                  simp only [Act.put, List.setIfInBounds_toArray, List.set_cons_zero, List.set_cons_succ]
                  refine wpAnyH_take (i := 24) (v := ?_) rfl (by kernel_rfl) (by kernel_rfl) (by kernel_rfl) (fun _ _ _ h => h) (Or.inl ⟨by rfl, ?_⟩) (by assumption) ?_
                  rotate_left
                  · (intro w hSw; go_simp; try with_reducible rfl)
                  simp only [Act.put, List.setIfInBounds_toArray, List.set_cons_zero, List.set_cons_succ]
                  refine wpAnyH_take (i := 25) (v := ?_) rfl (by kernel_rfl) (by kernel_rfl) (by kernel_rfl) (fun _ _ _ h => h) (Or.inl ⟨by rfl, ?_⟩) (by assumption) ?_
                  rotate_left
                  · (intro w hSw; go_simp; try with_reducible rfl)
                  simp only [Act.put, List.setIfInBounds_toArray, List.set_cons_zero, List.set_cons_succ]
                  refine wpAnyH_take (i := 26) (v := ?_) rfl (by kernel_rfl) (by kernel_rfl) (by kernel_rfl) (fun _ _ _ h => h) (Or.inl ⟨by rfl, ?_⟩) (by assumption) ?_
                  rotate_left
                  · (intro w hSw; go_simp; try with_reducible rfl)
                  simp only [Act.put, List.setIfInBounds_toArray, List.set_cons_zero, List.set_cons_succ]
                  refine wpAnyH_ready (rs := [14]) (by kernel_rfl) (by simp) ?_
                  refine AllReadyH.cons rfl (fun K hK => ?_) AllReadyH.nil
                  go_simp
                  refine (hSa _).mono ?_
                  rintro e wg ⟨rfl, rfl⟩
                  refine hK.out _ _ hS0 (fun hHeld => ?_)
                  clear hK K
                  refine wpAnyH_ready (rs := [27]) (by kernel_rfl) (by simp) ?_
                  refine AllReadyH.cons rfl (fun K hK => ?_) AllReadyH.nil
                  go_simp
                  refine (hSb _).mono ?_
                  rintro e wg ⟨rfl, rfl⟩
                  refine hK.out _ _ hS0 (fun hHeld => ?_)
                  clear hK K
                  refine wpAnyH_take (i := 28) (v := ?_) rfl (by kernel_rfl) (by kernel_rfl) (by kernel_rfl) (fun _ _ _ h => h) (Or.inl ⟨by rfl, ?_⟩) (by assumption) ?_
                  rotate_left
                  · (intro w hSw; go_simp; try with_reducible rfl)
                  simp only [Act.put, List.setIfInBounds_toArray, List.set_cons_zero, List.set_cons_succ]
                  refine wpAnyH_take (i := 29) (v := ?_) rfl (by kernel_rfl) (by kernel_rfl) (by kernel_rfl) (fun _ _ _ h => h) (Or.inl ⟨by rfl, ?_⟩) (by assumption) ?_
                  rotate_left
                  · (intro w hSw; go_simp; try with_reducible rfl)
                  simp only [Act.put, List.setIfInBounds_toArray, List.set_cons_zero, List.set_cons_succ]
                  refine wpAnyH_done (by kernel_rfl) ?_ _
                  clear hHeld hSa hSb
                  simp only [List.getElem_toArray, List.getElem_cons_zero, List.getElem_cons_succ, List.set_cons_zero, List.set_cons_succ, List.setIfInBounds_toArray]
                  have bd : Below w9.heap.size w9 wr.drew := bz.trans ((Below.refl wr.heap.size wr).drew.mono bz.size)
                  obtain ⟨d1, d2, _, _, _, _⟩ := hS0
                  obtain ⟨wd, hwd⟩ : ∃ W, wr.drew = W := ⟨_, rfl⟩
                  rw [hwd] at bd d1 d2 ⊢
                  clear hwd
                  by_cases hAB : A = B
                  · have hlt2 := HAB.out.2 hAB
                    rw [decide_eq_true hAB] at oeq
                    have hl3 : Op.bytesLess pa.toList pb.toList = true := hlt2
                    clear hlt2 hAB
                    go_wp2_with fail
                    go_quiet (fail)
                    go_wp2_with fail
                    go_roundw
                    case rel => exact ⟨z + 1, by omega, by omega, by go_num, bd.trans ((Dn.drewN _ _).below.mono bd.size)⟩
                    case measure => simp [intOf]; omega
                  · rw [decide_eq_false hAB] at oeq
                    clear hAB
                    go_wp2_with fail
                    go_quiet (fail)
                    go_wp2_with fail
                    go_roundw
                    case rel => exact ⟨z + 1, by omega, by omega, by go_num, bd.trans ((Dn.drewN _ _).below.mono bd.size)⟩
                    case measure => simp [intOf]; omega
                · have hzz : ¬ (z : Int) < (n : Int) := by omega
                  go_wp2_with fail
                  go_ret
                  exact ⟨rfl, B9.trans (bz.mono B9.size)⟩
end Go.Proofs.YtmmmghpimdfleaaGreatDoor.sweepGreatest
