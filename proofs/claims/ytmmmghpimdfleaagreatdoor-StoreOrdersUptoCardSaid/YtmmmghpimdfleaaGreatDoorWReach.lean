/-
  StoreReach: the walk of the law.
-/
import Derived.Test.YtmmmghpimdfleaaGreatDoorStock
import Derived.Test.YtmmmghpimdfleaaGreatDoorAwk
import Derived.Test.YtmmmghpimdfleaaGreatDoorClos
import Derived.Test.YtmmmghpimdfleaaGreatDoorSetM
set_option linter.unusedVariables false
set_option linter.unusedSimpArgs false
namespace Go.Proofs.YtmmmghpimdfleaaGreatDoor.storeReach
open Go.RowKit Mem Tr St
open Go.Proofs.YtmmmghpimdfleaaGreatDoor.Own
open Go.Proofs.YtmmmghpimdfleaaGreatDoor.Mp (In add mem_add hasL hasL_iff)

theorem rch_mono {rs : List Rec} {a b : List ByteArray} (h : ∀ p ∈ a, Rch rs b p) {p : ByteArray} (hp : Rch rs a p) : Rch rs b p := by
  induction hp with
  | root hm => exact h _ hm
  | step _ hr hq ih => exact .step ih hr hq
theorem rch_one {rs : List Rec} {roots : List ByteArray} {p : ByteArray} (hp : Rch rs roots p) : ∃ r ∈ roots, Rch rs [r] p := by
  induction hp with
  | root hm => exact ⟨_, hm, .root (by simp)⟩
  | step _ hr hq ih => obtain ⟨x, hx, h⟩ := ih; exact ⟨x, hx, .step h hr hq⟩
theorem rch_size {rs : List Rec} {roots : List ByteArray} {N : Nat} (h1 : ∀ p ∈ roots, p.size ≤ N) (h2 : ∀ r ∈ rs, ∀ q ∈ r.refs, q.size ≤ N) {p : ByteArray} (hp : Rch rs roots p) : p.size ≤ N := by
  induction hp with
  | root hm => exact h1 _ hm
  | step _ hr hq _ => exact h2 _ hr _ hq
theorem mem_bulks {l : List ByteArray} {p : ByteArray} (h : p ∈ l) : p.size + 1 ≤ bulks l := by
  induction l with
  | nil => cases h
  | cons x l ih =>
    unfold bulks
    rcases List.mem_cons.1 h with rfl | h
    · omega
    · have := ih h; omega
theorem nodup_len {a b : List ByteArray} (ha : a.Nodup) (hb : b.Nodup) (h : ∀ p, p ∈ a ↔ p ∈ b) : a.length = b.length :=
  Nat.le_antisymm (nodup_sub ha (fun p hp => (h p).1 hp)) (nodup_sub hb (fun p hp => (h p).2 hp))

set_option maxHeartbeats 8000000 in
set_option maxRecDepth 20000 in
theorem walk {rc st : Nat → BitVec 32} (w : World) (hg : Sum.Gl rc st w) (v : Value) (l : List Rec) (hr : Op.Recs (fun b => b < w.heap.size) w v l) (rv : Value) (roots : List ByteArray) (hro : Strs (fun b => b < w.heap.size) w rv roots) (hcap : ∀ n cap, rv = .slice none n cap → cap = 0) (hb : Op.bulkR l + 2 * bulks roots ≤ 2097152) :
    Calls Tryz.prog 7 #[v, rv] w fun e w' => e = .returned (.bool true) ∧ Below w.heap.size w w' := by
  have HR := Lib.hid hr
  have HG := Lib.hid hg
  have HRO := Lib.hid hro
  have hK := stk rc st l (by omega)
  obtain ⟨rs, hrs⟩ : ∃ rs, stockF rc st [] l = rs := ⟨_, rfl⟩
  have HRS := Lib.hid hrs
  rw [hrs] at hK
  have hll := bulkR_len l
  have hrl : rs.length ≤ 1048576 := by have := hK.len; omega
  have HGOOD := Lib.hid hK.good
  have HWT := Lib.hid (show wt0 rs ≤ 2097152 by have h1 := hK.wt; have h2 := bulkR_wt l; omega)
  have hbl : Op.bulkR l ≤ 4194304 := by omega
  have hrol : roots.length ≤ 1048576 := by have := length_bulks roots; omega
  have HPS := Lib.hid (show ∀ p, Rch rs roots p → p.size ≤ 2097152 from fun p hp => rch_size (fun q hq => by have := mem_bulks hq; omega) (fun r hr q hq => by
    have h1 := mem_bulks hq
    have h2 := bulkR_mem (hK.mem r hr)
    unfold Rec.bulk at h2
    omega) hp)
  obtain ⟨m, hm⟩ : ∃ m, roots.length = m := ⟨_, rfl⟩
  have HM := Lib.hid hm
  have HC := Lib.hid (show ∀ (M F S : Nat → Prop) (s : Nat) (rv' : Value) (ros : List ByteArray) (w' : World), Is M F w' s rs → Strs S w' rv' ros → (∀ p ∈ ros, Rch rs roots p) → ros.length ≤ 1048576 → Calls Tryz.prog 39 #[.pointer (some ⟨s, 0, none⟩), rv'] w' (PostClos w' rs ros) from
    fun M F S s rv' ros w' h1 h2 h3 h4 => closureC M F S s rs rv' ros w' h1 (by omega) h2 (by have := HWT.out; unfold wt0 at this; omega) (fun p hp => by have := HPS.out p (rch_mono h3 hp); unfold maxLen; omega))
  rw [hm] at hrol
  obtain ⟨ao, cap, rfl, _, _, _⟩ := hro
  rw [hm] at HRO
  rw [hm]
  clear hr hg hK hll hrs hm hb hcap
  go_enter Tryz.func7, Tryz.ntmps7
  go_wp2_with fail
  refine (stockedC17 rc st v l w HG.out HR.out hbl).mono ?_
  rintro e w1 ⟨M, F, s, rfl, h1, hMF, b1⟩
  rw [HRS.out] at h1
  have H1 := Lib.hid h1
  clear h1 hMF
  go_wp2_with fail
  refine (awakeC rc st w1 (HG.out.below b1)).mono ?_
  rintro e w2 ⟨rfl, b2⟩
  have B2 := b1.trans (b2.mono b1.size)
  go_wp2_with fail
  refine (HC.out M F _ s _ roots w2 (H1.out.below b2) (HRO.out.below B2) (fun p hp => .root hp) (by rw [HM.out]; exact hrol)).mono ?_
  rintro e w3 ⟨b3, ⟨q, h1, h2, rfl⟩ | ⟨v1, La, rfl, ho1, hris, hmem, hpath⟩⟩
  · clear h1 h2
    go_wp2_with fail
    go_ret
    exact ⟨rfl, B2.trans (b3.mono B2.size)⟩
  have HMEM := Lib.hid hmem
  have hnd := Srt.ris_nodup hris
  have hLl : La.length ≤ 1048576 := by
    have h1 : La.length ≤ (rs.map Rec.path).length := nodup_sub hnd (fun p hp => by
      obtain ⟨r, hr, e⟩ := hpath p hp
      exact List.mem_map.2 ⟨r, hr, e⟩)
    rw [List.length_map] at h1; omega
  have HND := Lib.hid hnd
  have HHAS := Lib.hid (show ∀ p, Rch rs roots p → Sto.has rs p = true from fun p hp => by
    obtain ⟨r, hr, e⟩ := hpath p ((hmem p).2 hp)
    rw [← e]; exact Sto.has_of_mem HGOOD.out.rise hr)
  obtain ⟨a1, c1, rfl⟩ := Tab.own_len ho1
  have HSA := Lib.hid (show Strs (fun b => w2.heap.size ≤ b) w3 (.slice a1 La.length c1) La from Strs.of_own ho1)
  obtain ⟨na, hna⟩ : ∃ na, La.length = na := ⟨_, rfl⟩
  have HNA := Lib.hid hna
  rw [hna] at hLl HSA ⊢
  have B3 := B2.trans (b3.mono B2.size)
  have H3 := Lib.hid ((H1.out.below b2).below b3)
  have mk : (Instr.makeMap 67 none).run Tryz.prog w3 = .ok (.map (some w3.heap.size)) (w3.alloc (.map #[] 0)) := run_makeMap _ w3
  obtain ⟨w4, hw4⟩ : ∃ W, w3.alloc (.map #[] 0) = W := ⟨_, rfl⟩
  have HIN := Lib.hid (show In w4 w3.heap.size [] by rw [← hw4]; exact Mp.In.made w3)
  have b4 : Below w3.heap.size w3 w4 := by rw [← hw4]; exact (Below.refl _ w3).alloc (Nat.le_refl _) _
  rw [hw4] at mk
  clear hw4 ho1 hris hmem hpath hnd hna
  go_wp2_with fail
  go_loopw [10, 11, 12, 14, 45] (fun _ _ _ _ i wr => ∃ k : Nat, k ≤ m ∧ i = .int .i64 k ∧ Hid (∃ L, In wr w3.heap.size L ∧ ∀ p, p ∈ L ↔ ∃ r ∈ roots.take k, Rch rs [r] p) ∧ Below w3.heap.size w3 wr) (fun _ _ _ _ i _ => m - (intOf i).toNat)
  case atStart => exact ⟨0, Nat.zero_le _, rfl, Lib.hid ⟨[], HIN.out, fun p => by simp⟩, b4⟩
  case round =>
    obtain ⟨k, hk, rfl, HI, br⟩ := hrel
    have BR := B3.trans (br.mono B3.size)
    by_cases hlt : k < m
    · obtain ⟨rb, ro, rcap, hrv, hcells⟩ := strs_at (HRO.out.below BR) (by rw [HM.out]; omega)
      injection hrv with hrv1 hrv2 hrv3
      subst hrv1
      clear hrv2 hrv3
      have hkl : k < roots.length := by rw [HM.out]; exact hlt
      have gk := hcells k hkl
      have hrin : roots[k] ∈ roots := List.getElem_mem _
      have HTK := Lib.hid (show ∀ x, x ∈ roots.take (k + 1) ↔ x ∈ roots.take k ∨ x = roots[k] from fun x => by rw [List.take_succ_eq_append_getElem hkl, List.mem_append, List.mem_singleton])
      obtain ⟨q, hq⟩ : ∃ q, roots[k] = q := ⟨_, rfl⟩
      rw [hq] at gk hrin HTK
      have HQR := Lib.hid (show Rch rs roots q from .root hrin)
      have e0 : (0 : Int) ≤ (k : Int) := Int.natCast_nonneg _
      have e1 : (k : Int) < (m : Int) := by omega
      clear hcells hq hrin
      go_wp2_with fail
      refine calls_named fun w5 hw5 => ?_
      have hst := strs_one wr q
      rw [hw5] at hst
      obtain ⟨b5, x5⟩ := alloc_fact hw5
      have HST := Lib.hid hst
      have br5 := br.trans (b5.mono br.size)
      clear hw5 x5 hst
      refine (HC.out M F _ s _ [q] w5 (H3.out.below br5) HST.out (fun p hp => by rw [List.mem_singleton.1 hp]; exact HQR.out) (by simp)).mono ?_
      rintro e w6 ⟨b6, ⟨x, h1, h2, rfl⟩ | ⟨v6, L6, rfl, ho6, hris6, hmem6, hpath6⟩⟩
      · have := HHAS.out x (rch_mono (fun p hp => by rw [List.mem_singleton.1 hp]; exact HQR.out) h1)
        rw [h2] at this; cases this
      have br6 := br5.trans (b6.mono br5.size)
      obtain ⟨a6, c6, rfl⟩ := Tab.own_len ho6
      obtain ⟨n6, hn6⟩ : ∃ n6, L6.length = n6 := ⟨_, rfl⟩
      have hl6 : n6 ≤ 1048576 := by
        rw [← hn6]
        refine Nat.le_trans (nodup_sub (Srt.ris_nodup hris6) (m := La) (fun p hp => ?_)) (by rw [HNA.out]; exact hLl)
        exact (HMEM.out p).2 (rch_mono (fun x hx => by rw [List.mem_singleton.1 hx]; exact HQR.out) ((hmem6 p).1 hp))
      obtain ⟨L, hin, hL⟩ := HI.out
      have HST6 := Lib.hid (show ∃ L', In w6 w3.heap.size L' ∧ (∀ p, p ∈ L' ↔ (∃ r ∈ roots.take k, Rch rs [r] p) ∨ p ∈ L6.take 0) ∧ w6.ownsRow w5.heap.size 9 1 (.slice a6 L6.length c6) L6.length (L6.map .string) from
        ⟨L, hin.below (b5.trans (b6.mono b5.size)), fun p => by rw [hL]; simp, ho6⟩)
      have HN6 := Lib.hid hn6
      have HL6 := Lib.hid hmem6
      rw [hn6] at HST6 ⊢
      clear HI hin hL ho6 hris6 hpath6 hmem6 hn6 L
      go_wp2_with fail
      go_loopw [14, 62] (fun _ i wr => ∃ j : Nat, j ≤ n6 ∧ i = .int .i64 j ∧ Hid (∃ L', In wr w3.heap.size L' ∧ (∀ p, p ∈ L' ↔ (∃ r ∈ roots.take k, Rch rs [r] p) ∨ p ∈ L6.take j) ∧ wr.ownsRow w5.heap.size 9 1 (.slice a6 n6 c6) n6 (L6.map .string)) ∧ Below w3.heap.size w3 wr) (fun _ i _ => n6 - (intOf i).toNat)
      case atStart => exact ⟨0, Nat.zero_le _, rfl, HST6, br6⟩
      case round =>
        obtain ⟨j, hj, rfl, HJ, bj⟩ := hrel
        by_cases hlj : j < n6
        · obtain ⟨L', hin, hL, hown⟩ := HJ.out
          have hstr : Strs (fun b => w5.heap.size ≤ b) wr (.slice a6 n6 c6) L6 := by
            have hown' := hown
            rw [← HN6.out] at hown' ⊢
            exact Strs.of_own hown'
          obtain ⟨rb2, ro2, rcap2, hrv, hcells⟩ := strs_at hstr (by rw [HN6.out]; omega)
          injection hrv with hrv1 hrv2 hrv3
          subst hrv1
          clear hrv2 hrv3
          have hjl : j < L6.length := by rw [HN6.out]; exact hlj
          have gj := hcells j hjl
          have hxr : Rch rs [q] L6[j] := (HL6.out _).1 (List.getElem_mem _)
          have htk : ∀ x, x ∈ L6.take (j + 1) ↔ x ∈ L6.take j ∨ x = L6[j] := fun x => by rw [List.take_succ_eq_append_getElem hjl, List.mem_append, List.mem_singleton]
          obtain ⟨y, hy⟩ : ∃ y, L6[j] = y := ⟨_, rfl⟩
          rw [hy] at gj hxr htk
          have hyr : Rch rs roots y := rch_mono (fun x hx => by rw [List.mem_singleton.1 hx]; exact HQR.out) hxr
          have hys := HPS.out y hyr
          have hlen : L'.length ≤ na := by
            rw [← HNA.out]
            refine nodup_sub hin.nodup (fun p hp => (HMEM.out p).2 ?_)
            rcases (hL p).1 hp with ⟨r, hr, h⟩ | h
            · exact rch_mono (fun x hx => by rw [List.mem_singleton.1 hx]; exact .root (List.mem_of_mem_take hr)) h
            · exact rch_mono (fun x hx => by rw [List.mem_singleton.1 hx]; exact HQR.out) ((HL6.out p).1 (List.mem_of_mem_take h))
          obtain ⟨w7, hrun, hin7, hg7, hs7⟩ := hin.store (by unfold maxLen; omega) (k := y) (by unfold maxLen; omega)
          have hnr : (Value.slice (some ⟨rb2, ro2, none⟩) n6 c6).ownBlock ≠ some w3.heap.size := hin.mp.notRow hown
          have HNEW := Lib.hid (show ∃ L', In w7 w3.heap.size L' ∧ (∀ p, p ∈ L' ↔ (∃ r ∈ roots.take k, Rch rs [r] p) ∨ p ∈ L6.take (j + 1)) ∧ w7.ownsRow w5.heap.size 9 1 (.slice (some ⟨rb2, ro2, none⟩) n6 c6) n6 (L6.map .string) from
            ⟨_, hin7, fun p => by rw [mem_add, hL, htk]; exact or_assoc, hown.kept hg7 (.inr hnr)⟩)
          have bj7 : Below w3.heap.size w3 w7 := bj.grown hg7 bj.size (fun k e => by cases e; exact Nat.le_refl _)
          have j0 : (0 : Int) ≤ (j : Int) := Int.natCast_nonneg _
          have j1 : (j : Int) < (n6 : Int) := by omega
          clear HJ hin hL hown hstr hcells hy hxr htk hyr hys hlen hin7 hg7 hs7 hnr
          go_wp2_with fail
          go_roundw
          case rel => exact ⟨j + 1, by omega, by go_num, HNEW, bj7⟩
          case measure => simp [intOf]; omega
        · obtain rfl : j = n6 := by omega
          have HNEW := Lib.hid (show ∃ L, In wr w3.heap.size L ∧ ∀ p, p ∈ L ↔ ∃ r ∈ roots.take (k + 1), Rch rs [r] p from by
            obtain ⟨L', hin, hL, _⟩ := HJ.out
            refine ⟨L', hin, fun p => ?_⟩
            rw [hL]
            constructor
            · rintro (⟨r, hr, h⟩ | h)
              · exact ⟨r, (HTK.out r).2 (.inl hr), h⟩
              · exact ⟨q, (HTK.out q).2 (.inr rfl), (HL6.out p).1 (List.mem_of_mem_take h)⟩
            · rintro ⟨r, hr, h⟩
              rcases (HTK.out r).1 hr with h2 | rfl
              · exact .inl ⟨r, h2, h⟩
              · refine .inr ?_
                rw [List.take_of_length_le (by rw [HN6.out]; exact Nat.le_refl _)]
                exact (HL6.out p).2 h)
          clear HJ
          go_wp2_with fail
          go_roundw
          case rel => exact ⟨k + 1, by omega, by go_num, HNEW, bj⟩
          case measure => simp [intOf]; omega
    · obtain rfl : k = m := by omega
      obtain ⟨L, hin, hL⟩ := HI.out
      have hLa : ∀ p, p ∈ L ↔ p ∈ La := fun p => by
        rw [hL, List.take_of_length_le (by rw [HM.out]; exact Nat.le_refl _), HMEM.out]
        constructor
        · rintro ⟨r, hr, h⟩
          exact rch_mono (fun x hx => by rw [List.mem_singleton.1 hx]; exact .root hr) h
        · exact rch_one
      have hll : L.length = na := by rw [← HNA.out]; exact nodup_len hin.nodup HND.out hLa
      have HIN2 := Lib.hid hin
      have HLA := Lib.hid hLa
      clear HI hin hL hLa
      go_wp2_with (at_len; refine Mp.wpList_len_in rfl _ rfl w3.heap.size L rfl HIN2.out ?_)
      clear hlt hk
      generalize wr = w9 at *
      go_loopw [16, 17, 18, 20, 77] (fun _ _ _ _ i wr => ∃ j : Nat, j ≤ na ∧ i = .int .i64 j ∧ Below w9.heap.size w9 wr) (fun _ _ _ _ i _ => na - (intOf i).toNat)
      case atStart => exact ⟨0, Nat.zero_le _, rfl, Below.refl _ _⟩
      case round =>
        obtain ⟨j, hj, rfl, b10⟩ := hrel
        have br10 := br.trans (b10.mono br.size)
        have BR10 := B3.trans (br10.mono B3.size)
        by_cases hlj : j < na
        · obtain ⟨rb, ro, rcap, hrv, hcells⟩ := strs_at (HSA.out.below br10) (by rw [HNA.out]; omega)
          injection hrv with hrv1 hrv2 hrv3
          subst hrv1
          clear hrv2 hrv3
          have hjl : j < La.length := by rw [HNA.out]; exact hlj
          have gk := hcells j hjl
          have hmp : La[j] ∈ La := List.getElem_mem _
          obtain ⟨q, hq⟩ : ∃ q, La[j] = q := ⟨_, rfl⟩
          rw [hq] at gk hmp
          have hqr : Rch rs roots q := (HMEM.out q).1 hmp
          have HQR := Lib.hid hqr
          have hin10 := HIN2.out.below b10
          have hqs := HPS.out q hqr
          have hlook := hin10.look (k := q) (by unfold maxLen; omega)
          rw [if_pos (hasL_iff.2 ((HLA.out q).2 hmp))] at hlook
          have e0 : (0 : Int) ≤ (j : Int) := Int.natCast_nonneg _
          have e1 : (j : Int) < (na : Int) := by omega
          clear hcells hq hmp hqr hqs hin10
          go_wp2_with fail
          refine calls_named fun w5 hw5 => ?_
          have hst := strs_one wr q
          rw [hw5] at hst
          obtain ⟨b5, x5⟩ := alloc_fact hw5
          have HST := Lib.hid hst
          have b11 := b10.trans (b5.mono b10.size)
          clear hw5 x5 hst hlook
          refine (HC.out M F _ s _ [q] w5 (H3.out.below (br10.trans (b5.mono br10.size))) HST.out (fun p hp => by rw [List.mem_singleton.1 hp]; exact HQR.out) (by simp)).mono ?_
          rintro e w6 ⟨b6, ⟨x, h1, h2, rfl⟩ | ⟨v6, L6, rfl, ho6, hris6, hmem6, hpath6⟩⟩
          · have := HHAS.out x (rch_mono (fun p hp => by rw [List.mem_singleton.1 hp]; exact HQR.out) h1)
            rw [h2] at this; cases this
          have b12 := b11.trans (b6.mono b11.size)
          obtain ⟨a6, c6, rfl⟩ := Tab.own_len ho6
          have HST6 := Lib.hid (show Strs (fun b => w5.heap.size ≤ b) w6 (.slice a6 L6.length c6) L6 from Strs.of_own ho6)
          have hpos : 0 < L6.length := List.length_pos_of_mem ((hmem6 q).2 (.root (by simp)))
          obtain ⟨n6, hn6⟩ : ∃ n6, L6.length = n6 := ⟨_, rfl⟩
          have hl6 : n6 ≤ 1048576 := by
            rw [← hn6]
            refine Nat.le_trans (nodup_sub (Srt.ris_nodup hris6) (m := La) (fun p hp => ?_)) (by rw [HNA.out]; exact hLl)
            exact (HMEM.out p).2 (rch_mono (fun x hx => by rw [List.mem_singleton.1 hx]; exact HQR.out) ((hmem6 p).1 hp))
          have HN6 := Lib.hid hn6
          have HL6 := Lib.hid hmem6
          rw [hn6] at HST6 hpos ⊢
          clear ho6 hris6 hpath6 hmem6 hn6
          have t6 : ((n6 : Int) == 0) = false := by simp; omega
          go_wp2_with fail
          clear t6
          go_loopw [20, 103] (fun _ i wr => ∃ y : Nat, y ≤ n6 ∧ i = .int .i64 y ∧ Below w6.heap.size w6 wr) (fun _ i _ => n6 - (intOf i).toNat)
          case atStart => exact ⟨0, Nat.zero_le _, rfl, Below.refl _ _⟩
          case round =>
            obtain ⟨y, hy, rfl, b13⟩ := hrel
            have b14 := b12.trans (b13.mono b12.size)
            by_cases hly : y < n6
            · obtain ⟨rb2, ro2, rcap2, hrv, hcells⟩ := strs_at (HST6.out.below b13) (by rw [HN6.out]; omega)
              injection hrv with hrv1 hrv2 hrv3
              subst hrv1
              clear hrv2 hrv3
              have hyl : y < L6.length := by rw [HN6.out]; exact hly
              have gj := hcells y hyl
              have hxr : Rch rs [q] L6[y] := (HL6.out _).1 (List.getElem_mem _)
              obtain ⟨z, hz⟩ : ∃ z, L6[y] = z := ⟨_, rfl⟩
              rw [hz] at gj hxr
              have hzr : Rch rs roots z := rch_mono (fun x hx => by rw [List.mem_singleton.1 hx]; exact HQR.out) hxr
              have hzs := HPS.out z hzr
              have hlook := (HIN2.out.below b14).look (k := z) (by unfold maxLen; omega)
              rw [if_pos (hasL_iff.2 ((HLA.out z).2 ((HMEM.out z).2 hzr)))] at hlook
              have j0 : (0 : Int) ≤ (y : Int) := Int.natCast_nonneg _
              have j1 : (y : Int) < (n6 : Int) := by omega
              clear hcells hz hxr hzr hzs
              go_wp2_with fail
              go_roundw
              case rel => exact ⟨y + 1, by omega, by go_num, b13⟩
              case measure => simp [intOf]; omega
            · obtain rfl : y = n6 := by omega
              go_wp2_with fail
              go_roundw
              case rel => exact ⟨j + 1, by omega, by go_num, b14⟩
              case measure => simp [intOf]; omega
        · obtain rfl : j = na := by omega
          go_wp2_with fail
          go_ret
          exact ⟨rfl, BR10⟩
end Go.Proofs.YtmmmghpimdfleaaGreatDoor.storeReach
