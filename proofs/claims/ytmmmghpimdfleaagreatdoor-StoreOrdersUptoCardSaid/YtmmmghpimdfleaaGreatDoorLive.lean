/-
  sweep.Live and sweep.Dead.
-/
import Derived.Test.YtmmmghpimdfleaaGreatDoorSwP
import Derived.Test.YtmmmghpimdfleaaGreatDoorClos
import Derived.Test.YtmmmghpimdfleaaGreatDoorSetM
import Derived.Test.YtmmmghpimdfleaaGreatDoorVRefs
set_option linter.unusedVariables false
set_option linter.unusedSimpArgs false
namespace Go.Proofs.YtmmmghpimdfleaaGreatDoor.Swp
open Go.RowKit Mem Tr St
open Go.Proofs.YtmmmghpimdfleaaGreatDoor.Own
open Go.Proofs.YtmmmghpimdfleaaGreatDoor.Mp (In add mem_add hasL hasL_iff)

/-- What a call gives that makes a row of texts. -/
def PostTexts (w : World) (D : List ByteArray) (e : Ending) (w' : World) : Prop := ∃ v, e = .returned v ∧ w'.ownsRow w.heap.size 9 1 v D.length (D.map .string) ∧ Below w.heap.size w w'
def PostLive (w : World) (rs : List Rec) (roots : List ByteArray) (e : Ending) (w' : World) : Prop := ∃ L, PostTexts w L e w' ∧ Srt.Ris L ∧ ∀ p, p ∈ L ↔ Lives rs roots p
theorem deadTo_len (rs : List Rec) (roots : List ByteArray) (l : List Rec) : (deadTo rs roots l).length ≤ l.length := by
  unfold deadTo; rw [List.length_map]; exact List.length_filter_le _ _
theorem there_len (rs : List Rec) (l : List ByteArray) : (there rs l).length ≤ l.length := List.length_filter_le _ _

set_option maxHeartbeats 4000000 in
set_option maxRecDepth 20000 in
theorem liveC (M F : Nat → Prop) (s : Nat) (rs : List Rec) (rv : Value) (roots : List ByteArray) (w : World) (h : Is M F w s rs) (hn : rs.length ≤ 1048576) (hr : Strs (fun b => b < w.heap.size) w rv roots) (hrl : roots.length ≤ 1048576) (hwt : wt0 rs ≤ 2097152)
    (hc : ∀ r ∈ rs, ∀ q ∈ r.refs, Sto.has rs q = true) (hps : ∀ r ∈ rs, r.path.size ≤ 4194304) :
    Calls Tryz.prog 43 #[.pointer (some ⟨s, 0, none⟩), rv] w (PostLive w rs roots) := by
  have HIS := Lib.hid h
  have HRO := Lib.hid hr
  have HC := Lib.hid hc
  have HPS := Lib.hid (show ∀ p, Rch rs (there rs roots) p → p.size ≤ maxLen from fun p hp => by
    obtain ⟨r, h1, e⟩ := has_iff.1 (lives_has hc hp)
    rw [← e]; have := hps r h1; unfold maxLen; omega)
  have HWT := Lib.hid hwt
  obtain ⟨m, hm⟩ : ∃ m, roots.length = m := ⟨_, rfl⟩
  have HM := Lib.hid hm
  obtain ⟨ao, cap, rfl, _, _, _⟩ := hr
  rw [hm] at HRO hrl
  rw [hm]
  clear h hc hps hwt hm
  go_enter Tryz.func43, Tryz.ntmps43
  go_wp2_with fail
  go_loopw [5, 7, 12] (fun x5 _ i wr => ∃ k : Nat, ∃ ao n c, k ≤ m ∧ i = .int .i64 k ∧ x5 = .slice ao n c ∧ Hid (n = (there rs (roots.take k)).length ∧ wr.ownsRow w.heap.size 9 1 (.slice ao n c) n ((there rs (roots.take k)).map .string)) ∧ Below w.heap.size w wr) (fun _ _ i _ => m - (intOf i).toNat)
  case atStart => exact ⟨0, none, 0, 0, Nat.zero_le _, rfl, rfl, Lib.hid ⟨rfl, World.ownsRow_nil _ _ _ _⟩, Below.refl _ _⟩
  case round =>
    obtain ⟨k, ao5, n5, c5, hk, rfl, rfl, HW, br⟩ := hrel
    by_cases hlt : k < m
    · obtain ⟨rb, ro, rcap, hrv, hcells⟩ := strs_at (HRO.out.below br) (by rw [HM.out]; omega)
      injection hrv with hrv1 hrv2 hrv3
      subst hrv1
      clear hrv2 hrv3
      have hkl : k < roots.length := by rw [HM.out]; exact hlt
      have gk := hcells k hkl
      have htk : roots.take (k + 1) = roots.take k ++ [roots[k]] := List.take_succ_eq_append_getElem hkl
      obtain ⟨q, hq⟩ : ∃ q, roots[k] = q := ⟨_, rfl⟩
      rw [hq] at gk htk
      have hsn := there_snoc rs (roots.take k) q
      rw [← htk] at hsn
      have HSN := Lib.hid hsn
      have hn5 : n5 ≤ 1048576 := by rw [HW.out.1]; have := there_len rs (roots.take k); rw [List.length_take] at this; omega
      have e0 : (0 : Int) ≤ (k : Int) := Int.natCast_nonneg _
      have e1 : (k : Int) < (m : Int) := by omega
      clear hcells hq htk hsn hkl
      go_wp2_with fail
      refine (hasC M F s rs q wr (HIS.out.below br) (by omega)).mono ?_
      rintro e w2 ⟨rfl, b2⟩
      have br2 := br.trans (b2.mono br.size)
      have hown2 := Copy.own_below HW.out.2 b2
      cases hh : Sto.has rs q with
      | false =>
        have HNEW := Lib.hid (show n5 = (there rs (roots.take (k + 1))).length ∧ w2.ownsRow w.heap.size 9 1 (.slice ao5 n5 c5) n5 ((there rs (roots.take (k + 1))).map .string) from by
          rw [HSN.out, hh]
          simp only [Bool.false_eq_true, if_false, List.append_nil]
          exact ⟨HW.out.1, hown2⟩)
        clear HW hown2 hh
        go_wp2_with fail
        go_roundw
        case rel => exact ⟨k + 1, _, _, _, by omega, by go_num, rfl, HNEW, br2⟩
        case measure => simp [intOf]; omega
      | true =>
        have HNEW := Lib.hid (show (there rs (roots.take (k + 1))) = there rs (roots.take k) ++ [q] by rw [HSN.out, hh]; rfl)
        obtain ⟨i0, hi, hz0, hz1, hz2⟩ := info_parts Make.infoStr
        have hsz := br2.size
        have HOWN := Lib.hid hown2
        have HNL := Lib.hid HW.out.1
        clear HW hh
        go_wp2_with (at_builtin; go_loud (refine wpList_append_own _ rfl _ _ 27 rfl w.heap.size 9 i0 (.string ⟨#[]⟩) 1 16 Tryz.underlying27 hi hz0 hz1 hz2 rfl (by decide) _ _ _ rfl (hown2.alloc _) ⟨w2.heap.size, 0, none⟩ 1 1 [.string q] rfl rfl (cell_one_new _ _ _) (by simp [Value.oneCell']) (by unfold maxLen; omega) (by omega) (by simp; omega) ?_; intro v' w8 hown8 hgrow hnil; obtain ⟨g', cap', rfl⟩ := ownsRow_succ hown8; have HN8 := Lib.hid hown8; have HG8 := Lib.hid hgrow; clear hown8 hgrow hnil))
        have hba : Below w2.heap.size w2 (w2.alloc (.cells #[.string q] 9)) := (Below.refl _ w2).alloc (Nat.le_refl _) _
        have hB8 : Below w.heap.size w w8 := (br2.trans (hba.mono br2.size)).grown HG8.out (by have := hba.size; omega) (fun k e => (HOWN.out.lt k e).1)
        have HF := Lib.hid (show n5 + 1 = (there rs (roots.take (k + 1))).length ∧ w8.ownsRow w.heap.size 9 1 (.slice (some ⟨g', 0, none⟩) (n5 + 1) cap') (n5 + 1) ((there rs (roots.take (k + 1))).map .string) from by
          rw [HNEW.out, List.length_append, List.map_append, ← HNL.out]; exact ⟨rfl, HN8.out⟩)
        clear hown2
        go_roundw
        case rel => exact ⟨k + 1, _, _, _, by omega, by go_num, rfl, HF, hB8⟩
        case measure => simp [intOf]; omega
    · obtain rfl : k = m := by omega
      have hW := HW.out
      rw [List.take_of_length_le (by rw [HM.out]; exact Nat.le_refl _)] at hW
      have HS := Lib.hid (show Strs (fun b => w.heap.size ≤ b) wr (.slice ao5 n5 c5) (there rs roots) from by
        have h1 := hW.2
        have h2 := hW.1
        subst h2
        exact Strs.of_own h1)
      have hn5 : (there rs roots).length ≤ 1048576 := by have := there_len rs roots; rw [HM.out] at this; omega
      clear HW hW
      go_wp2_with fail
      refine (closureC M F _ s rs _ (there rs roots) wr (HIS.out.below br) (by omega) HS.out (by have := HWT.out; unfold wt0 at this; omega) HPS.out).mono ?_
      rintro e w3 ⟨b3, ⟨q, h1, h2, rfl⟩ | ⟨v1, L, rfl, ho1, hris, hmem, hpath⟩⟩
      · have := lives_has HC.out h1
        rw [h2] at this; cases this
      · have HO := Lib.hid (show w3.ownsRow w.heap.size 9 1 v1 L.length (L.map .string) ∧ Srt.Ris L ∧ (∀ p, p ∈ L ↔ Rch rs (there rs roots) p) from ⟨row_low3 ho1 br.size, hris, hmem⟩)
        have br3 := br.trans (b3.mono br.size)
        obtain ⟨a1, c1, rfl⟩ := Tab.own_len ho1
        clear ho1 hris hmem hpath
        go_wp2_with fail
        go_ret
        exact ⟨L, ⟨_, rfl, HO.out.1, br3⟩, HO.out.2.1, HO.out.2.2⟩

set_option maxHeartbeats 4000000 in
set_option maxRecDepth 20000 in
theorem deadC (M F : Nat → Prop) (s : Nat) (rs : List Rec) (rv : Value) (roots : List ByteArray) (w : World) (h : Is M F w s rs) (hn : rs.length ≤ 1048576) (hr : Strs (fun b => b < w.heap.size) w rv roots) (hrl : roots.length ≤ 1048576) (hwt : wt0 rs ≤ 2097152)
    (hc : ∀ r ∈ rs, ∀ q ∈ r.refs, Sto.has rs q = true) (hps : ∀ r ∈ rs, r.path.size ≤ 4194304) :
    Calls Tryz.prog 45 #[.pointer (some ⟨s, 0, none⟩), rv] w (PostTexts w (deadL rs roots)) := by
  have HIS := Lib.hid h
  have HRO := Lib.hid hr
  have HC := Lib.hid hc
  have HPS := Lib.hid hps
  have HL := fun w1 hb hr => liveC M F s rs rv roots w1 (h.below hb) hn hr hrl hwt hc hps
  obtain ⟨ao, cap, rfl, _, _, _⟩ := hr
  obtain ⟨m, hm⟩ : ∃ m, roots.length = m := ⟨_, rfl⟩
  rw [hm] at HRO HL
  rw [hm]
  have mk : (Instr.makeMap 67 none).run Tryz.prog w = .ok (.map (some w.heap.size)) (w.alloc (.map #[] 0)) := run_makeMap _ w
  obtain ⟨w1, hw1⟩ : ∃ W, w.alloc (.map #[] 0) = W := ⟨_, rfl⟩
  have HIN := Lib.hid (show In w1 w.heap.size [] by rw [← hw1]; exact Mp.In.made w)
  have b1 : Below w.heap.size w w1 := by rw [← hw1]; exact (Below.refl _ w).alloc (Nat.le_refl _) _
  rw [hw1] at mk
  have hlt1 : w.heap.size < w1.heap.size := HIN.out.lt
  have HR1 := Lib.hid ((HRO.out.below b1).sub (S' := fun b => b < w1.heap.size) (fun b h _ => h))
  obtain ⟨n, hnn⟩ : ∃ n, rs.length = n := ⟨_, rfl⟩
  have HN := Lib.hid hnn
  have HHL := Lib.hid HL
  rw [hnn] at hn
  clear hw1 hm h hc hps hnn HL hrl hwt
  go_enter Tryz.func45, Tryz.ntmps45
  go_wp2_with fail
  refine (HHL.out w1 b1 HR1.out).mono ?_
  rintro e w2 ⟨L, ⟨v2, rfl, ho2, b2⟩, hris, hmem⟩
  have B2 := b1.trans (b2.mono b1.size)
  obtain ⟨a2, c2, rfl⟩ := Tab.own_len ho2
  have HMEM := Lib.hid hmem
  have hll : L.length ≤ n := by
    have h1 : L.length ≤ (rs.map Rec.path).length := nodup_sub (Srt.ris_nodup hris) (fun p hp => by
      obtain ⟨r, hr, e⟩ := has_iff.1 (lives_has HC.out ((hmem p).1 hp))
      exact List.mem_map.2 ⟨r, hr, e⟩)
    rw [List.length_map, HN.out] at h1; exact h1
  have HSZ := Lib.hid (show ∀ p ∈ L, p.size ≤ 4194304 from fun p hp => by
    obtain ⟨r, hr, e⟩ := has_iff.1 (lives_has HC.out ((hmem p).1 hp))
    rw [← e]; exact HPS.out r hr)
  have HO2 := Lib.hid ho2
  have HIN2 := Lib.hid (HIN.out.below b2)
  have hlt2 : w.heap.size < w2.heap.size := HIN2.out.lt
  obtain ⟨n2, hn2⟩ : ∃ n2, L.length = n2 := ⟨_, rfl⟩
  have HN2 := Lib.hid hn2
  rw [hn2] at HO2 hll ⊢
  clear ho2 hris hmem hn2 mk
  go_wp2_with fail
  go_loopw [7, 16] (fun _ i wr => ∃ k : Nat, k ≤ n2 ∧ i = .int .i64 k ∧ Hid (∃ L', In wr w.heap.size L' ∧ (∀ p, p ∈ L' ↔ p ∈ L.take k) ∧ wr.ownsRow w1.heap.size 9 1 (.slice a2 n2 c2) n2 (L.map .string)) ∧ Below w.heap.size w wr) (fun _ i _ => n2 - (intOf i).toNat)
  case atStart => exact ⟨0, Nat.zero_le _, rfl, Lib.hid ⟨[], HIN2.out, fun p => by simp, HO2.out⟩, B2⟩
  case round =>
    obtain ⟨k, hk, rfl, HJ, bj⟩ := hrel
    by_cases hlj : k < n2
    · obtain ⟨L', hin, hL, hown⟩ := HJ.out
      have hstr : Strs (fun b => w1.heap.size ≤ b) wr (.slice a2 n2 c2) L := by
        have hown' := hown
        rw [← HN2.out] at hown' ⊢
        exact Strs.of_own hown'
      obtain ⟨rb2, ro2, rcap2, hrv, hcells⟩ := strs_at hstr (by rw [HN2.out]; omega)
      injection hrv with hrv1 hrv2 hrv3
      subst hrv1
      clear hrv2 hrv3
      have hjl : k < L.length := by rw [HN2.out]; exact hlj
      have gj := hcells k hjl
      have hys := HSZ.out L[k] (List.getElem_mem _)
      have htk : ∀ x, x ∈ L.take (k + 1) ↔ x ∈ L.take k ∨ x = L[k] := fun x => by rw [List.take_succ_eq_append_getElem hjl, List.mem_append, List.mem_singleton]
      obtain ⟨y, hy⟩ : ∃ y, L[k] = y := ⟨_, rfl⟩
      rw [hy] at gj hys htk
      have hlen : L'.length ≤ n2 := by
        rw [← HN2.out]
        exact nodup_sub hin.nodup (fun p hp => List.mem_of_mem_take ((hL p).1 hp))
      obtain ⟨w7, hrun, hin7, hg7, hs7⟩ := hin.store (by unfold maxLen; omega) (k := y) (by unfold maxLen; omega)
      have hnr : (Value.slice (some ⟨rb2, ro2, none⟩) n2 c2).ownBlock ≠ some w.heap.size := hin.mp.notRow hown
      have HNEW := Lib.hid (show ∃ L', In w7 w.heap.size L' ∧ (∀ p, p ∈ L' ↔ p ∈ L.take (k + 1)) ∧ w7.ownsRow w1.heap.size 9 1 (.slice (some ⟨rb2, ro2, none⟩) n2 c2) n2 (L.map .string) from
        ⟨_, hin7, fun p => by rw [mem_add, hL, htk], hown.kept hg7 (.inr hnr)⟩)
      have bj7 : Below w.heap.size w w7 := bj.grown hg7 bj.size (fun k e => by cases e; exact Nat.le_refl _)
      have j0 : (0 : Int) ≤ (k : Int) := Int.natCast_nonneg _
      have j1 : (k : Int) < (n2 : Int) := by omega
      clear HJ hin hL hown hstr hcells hy htk hys hlen hin7 hg7 hs7 hnr
      go_wp2_with fail
      go_roundw
      case rel => exact ⟨k + 1, by omega, by go_num, HNEW, bj7⟩
      case measure => simp [intOf]; omega
    · obtain rfl : k = n2 := by omega
      obtain ⟨L', hin, hL, _⟩ := HJ.out
      have HIN3 := Lib.hid (show In wr w.heap.size L' from hin)
      have HL3 := Lib.hid (show ∀ p, p ∈ L' ↔ Lives rs roots p from fun p => by
        rw [hL, List.take_of_length_le (by rw [HN2.out]; exact Nat.le_refl _)]; exact HMEM.out p)
      clear HJ hin hL
      go_wp2_with fail
      refine (pathsC M F s rs wr (HIS.out.below bj) (by rw [HN.out]; omega)).mono ?_
      rintro e w4 ⟨v4, rfl, ho4, b4⟩
      have hml : (rs.map fun r => Value.string r.path) = (rs.map Rec.path).map Value.string := by rw [List.map_map]; rfl
      obtain ⟨ps, hps⟩ : ∃ ps, rs.map Rec.path = ps := ⟨_, rfl⟩
      have HPT := Lib.hid hps
      have hpl : ps.length = rs.length := by rw [← hps, List.length_map]
      have HPL := Lib.hid hpl
      rw [hml, hps, ← hpl] at ho4
      have HS4 := Lib.hid (show Strs (fun b => wr.heap.size ≤ b) w4 v4 ps from Strs.of_own ho4)
      obtain ⟨a4, c4, rfl⟩ := Tab.own_len ho4
      have B4 := bj.trans (b4.mono bj.size)
      have HIN4 := Lib.hid (HIN3.out.below b4)
      have hlt4 := HIN4.out.lt
      rw [hpl, HN.out] at HS4 ⊢
      clear ho4 hml hps hpl hlj hk bj b4
      go_wp2_with fail
      generalize wr = w9 at *
      go_loopw [8, 10, 28] (fun x8 _ i wr => ∃ j : Nat, ∃ ao m c, j ≤ n ∧ i = .int .i64 j ∧ x8 = .slice ao m c ∧ Hid (m = (deadTo rs roots (rs.take j)).length ∧ wr.ownsRow w4.heap.size 9 1 (.slice ao m c) m ((deadTo rs roots (rs.take j)).map .string)) ∧ Below w4.heap.size w4 wr) (fun _ _ i _ => n - (intOf i).toNat)
      case atStart => exact ⟨0, none, 0, 0, Nat.zero_le _, rfl, rfl, Lib.hid ⟨rfl, World.ownsRow_nil _ _ _ _⟩, Below.refl _ _⟩
      case round =>
        obtain ⟨j, ao5, n5, c5, hj, rfl, rfl, HW, br⟩ := hrel
        by_cases hlt : j < n
        · obtain ⟨rb, ro, rcap, hrv, hcells⟩ := strs_at (HS4.out.below br) (by rw [HPL.out, HN.out]; omega)
          injection hrv with hrv1 hrv2 hrv3
          subst hrv1
          clear hrv2 hrv3
          have hjl : j < ps.length := by rw [HPL.out, HN.out]; exact hlt
          have gj := hcells j hjl
          have hjr : j < rs.length := by rw [HN.out]; exact hlt
          have hpj : ps[j] = rs[j].path := by
            have : ps[j]? = some rs[j].path := by rw [← HPT.out, List.getElem?_map, List.getElem?_eq_getElem hjr]; rfl
            rw [List.getElem?_eq_getElem hjl] at this
            exact Option.some.inj this
          have hqs := HPS.out rs[j] (List.getElem_mem _)
          have hsn := deadTo_snoc rs roots (rs.take j) rs[j]
          rw [← List.take_succ_eq_append_getElem hjr] at hsn
          rw [hpj] at gj
          obtain ⟨q, hq⟩ : ∃ q, rs[j].path = q := ⟨_, rfl⟩
          rw [hq] at gj hsn hqs
          have HSN := Lib.hid hsn
          have hlook := (HIN4.out.below br).look (k := q) (by unfold maxLen; omega)
          have hn5 : n5 ≤ 1048576 := by
            rw [HW.out.1]
            have h1 := deadTo_len rs roots (rs.take j)
            rw [List.length_take] at h1
            omega
          have e0 : (0 : Int) ≤ (j : Int) := Int.natCast_nonneg _
          have e1 : (j : Int) < (n : Int) := by omega
          clear hcells hq hsn hpj hjl hqs
          cases hh : hasL L' q with
          | true =>
            rw [hh] at hlook
            have HNEW := Lib.hid (show n5 = (deadTo rs roots (rs.take (j + 1))).length ∧ wr.ownsRow w4.heap.size 9 1 (.slice ao5 n5 c5) n5 ((deadTo rs roots (rs.take (j + 1))).map .string) from by
              rw [HSN.out, if_pos ((HL3.out q).1 (hasL_iff.1 hh)), List.append_nil]
              exact HW.out)
            clear HW hh
            go_wp2_with fail
            go_roundw
            case rel => exact ⟨j + 1, _, _, _, by omega, by go_num, rfl, HNEW, br⟩
            case measure => simp [intOf]; omega
          | false =>
            rw [hh] at hlook
            have HNEW := Lib.hid (show deadTo rs roots (rs.take (j + 1)) = deadTo rs roots (rs.take j) ++ [q] by
              rw [HSN.out, if_neg (fun h => by rw [hasL_iff.2 ((HL3.out q).2 h)] at hh; cases hh)])
            obtain ⟨i0, hi, hz0, hz1, hz2⟩ := info_parts Make.infoStr
            have hsz := br.size
            have hown2 := HW.out.2
            have HOWN := Lib.hid hown2
            have HNL := Lib.hid HW.out.1
            clear HW hh
            go_wp2_with (at_builtin; go_loud (refine wpList_append_own _ rfl _ _ 27 rfl w4.heap.size 9 i0 (.string ⟨#[]⟩) 1 16 Tryz.underlying27 hi hz0 hz1 hz2 rfl (by decide) _ _ _ rfl (hown2.alloc _) ⟨wr.heap.size, 0, none⟩ 1 1 [.string q] rfl rfl (cell_one_new _ _ _) (by simp [Value.oneCell']) (by unfold maxLen; omega) (by omega) (by simp; omega) ?_; intro v' w8 hown8 hgrow hnil; obtain ⟨g', cap', rfl⟩ := ownsRow_succ hown8; have HN8 := Lib.hid hown8; have HG8 := Lib.hid hgrow; clear hown8 hgrow hnil))
            have hba : Below wr.heap.size wr (wr.alloc (.cells #[.string q] 9)) := (Below.refl _ wr).alloc (Nat.le_refl _) _
            have hB8 : Below w4.heap.size w4 w8 := (br.trans (hba.mono br.size)).grown HG8.out (by have := hba.size; omega) (fun k e => (HOWN.out.lt k e).1)
            have HF := Lib.hid (show n5 + 1 = (deadTo rs roots (rs.take (j + 1))).length ∧ w8.ownsRow w4.heap.size 9 1 (.slice (some ⟨g', 0, none⟩) (n5 + 1) cap') (n5 + 1) ((deadTo rs roots (rs.take (j + 1))).map .string) from by
              rw [HNEW.out, List.length_append, List.map_append, ← HNL.out]; exact ⟨rfl, HN8.out⟩)
            clear hown2 hlook
            go_roundw
            case rel => exact ⟨j + 1, _, _, _, by omega, by go_num, rfl, HF, hB8⟩
            case measure => simp [intOf]; omega
        · obtain rfl : j = n := by omega
          have hW := HW.out
          rw [List.take_of_length_le (by rw [HN.out]; exact Nat.le_refl _)] at hW
          have HF := Lib.hid hW
          clear HW hW
          go_wp2_with fail
          go_ret
          refine ⟨_, rfl, ?_, B4.trans (br.mono B4.size)⟩
          obtain ⟨h1, h2⟩ := HF.out
          subst h1
          exact row_low3 h2 B4.size
end Go.Proofs.YtmmmghpimdfleaaGreatDoor.Swp
