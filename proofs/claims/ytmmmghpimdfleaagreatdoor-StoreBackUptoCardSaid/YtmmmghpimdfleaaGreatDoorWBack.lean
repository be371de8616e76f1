/-
  StoreBack: the walk of the law.
-/
import Derived.Test.YtmmmghpimdfleaaGreatDoorStock
import Derived.Test.YtmmmghpimdfleaaGreatDoorAwk
import Derived.Test.YtmmmghpimdfleaaGreatDoorAcyc
import Derived.Test.YtmmmghpimdfleaaGreatDoorWReach
import Derived.Test.YtmmmghpimdfleaaGreatDoorBytes
import Derived.Test.YtmmmghpimdfleaaGreatDoorWClsd
import Derived.Test.YtmmmghpimdfleaaGreatDoorVRefs
import Derived.Test.YtmmmghpimdfleaaGreatDoorCutT
set_option linter.unusedVariables false
set_option linter.unusedSimpArgs false
namespace Go.Proofs.YtmmmghpimdfleaaGreatDoor.storeBack
open Go.RowKit Mem Tr St
open Go.Proofs.YtmmmghpimdfleaaGreatDoor.Own
open Go.Proofs.YtmmmghpimdfleaaGreatDoor.storeReach (mem_bulks rch_size)

theorem paths_nodup {rs : List Rec} (h : Sp.Rising Rec.path rs) : (rs.map Rec.path).Nodup := by
  rw [List.nodup_iff_pairwise_ne, List.pairwise_map]
  exact List.Pairwise.imp (fun hl => Sp.lt_ne hl) h
theorem refd_sub {rs : List Rec} {p : ByteArray} : (refd rs p).length ≤ rs.length := by
  unfold refd; rw [List.length_map]; exact List.length_filter_le _ _
theorem has_cut {rs : List Rec} {p : ByteArray} (h : Sto.has rs p = true) : Sto.has (cutS rs p) p = decide (refd rs p ≠ []) := by
  by_cases hu : refd rs p = []
  · have e : cutE rs p = 0 := by unfold cutE; rw [if_pos h, if_pos hu]
    unfold cutS
    rw [if_pos e, decide_eq_false (by simpa using hu)]
    cases hh : Sto.has (Sp.cut Rec.path rs p) p with
    | false => rfl
    | true =>
      unfold Sto.has Sp.get Sp.cut at hh
      rw [List.find?_isSome] at hh
      obtain ⟨x, hx, e⟩ := hh
      have h1 := (List.mem_filter.1 hx).2
      have h1 := of_decide_eq_true h1
      exact absurd (of_decide_eq_true e) h1
  · have e : cutE rs p = 170 := by unfold cutE; rw [if_pos h, if_neg hu]
    unfold cutS
    rw [if_neg (by rw [e]; decide), decide_eq_true hu, h]

set_option maxHeartbeats 8000000 in
set_option maxRecDepth 20000 in
theorem walk {rc st : Nat → BitVec 32} (w : World) (hg : Sum.Gl rc st w) (v : Value) (l : List Rec) (hr : Op.Recs (fun b => b < w.heap.size) w v l) (hb : Op.bulkR l ≤ 2097152) :
    Calls Tryz.prog 6 #[v] w fun e w' => e = .returned (.bool true) ∧ Below w.heap.size w w' := by
  have HR := Lib.hid hr
  have HG := Lib.hid hg
  have hK := stk rc st l (by omega)
  have hac : Acyc (stockF rc st [] l) := acyc l (by omega)
  obtain ⟨rs, hrs⟩ : ∃ rs, stockF rc st [] l = rs := ⟨_, rfl⟩
  have HRS := Lib.hid hrs
  rw [hrs] at hK hac
  have HAC := Lib.hid hac
  have hll := bulkR_len l
  have hrl : rs.length ≤ 1048576 := by have := hK.len; omega
  have HGOOD := Lib.hid hK.good
  have HWT := Lib.hid (show wt0 rs ≤ 2097152 by have h1 := hK.wt; have h2 := bulkR_wt l; omega)
  have hbl : Op.bulkR l ≤ 4194304 := by omega
  have HBK := Lib.hid (show ∀ r ∈ rs, r.bulk + 2 ≤ 2097152 from fun r hr => by have := bulkR_mem (hK.mem r hr); omega)
  have hml : (rs.map fun r => Value.string r.path) = (rs.map Rec.path).map Value.string := by rw [List.map_map]; rfl
  have HML := Lib.hid hml
  obtain ⟨ps, hps⟩ : ∃ ps, rs.map Rec.path = ps := ⟨_, rfl⟩
  have HPS := Lib.hid hps
  have hpl : ps.length = rs.length := by rw [← hps, List.length_map]
  have HPL := Lib.hid hpl
  obtain ⟨n, hn⟩ : ∃ n, rs.length = n := ⟨_, rfl⟩
  have HN := Lib.hid hn
  rw [hn] at hrl
  obtain ⟨ao, cap, rfl, _, _, _⟩ := hr
  clear hg hK hac hll hrs hb hml hps hpl hn
  go_enter Tryz.func6, Tryz.ntmps6
  go_wp2_with fail
  refine (stockedC17 rc st _ l w HG.out HR.out hbl).mono ?_
  rintro e w1 ⟨M, F, s, rfl, h1, hMF, b1⟩
  rw [HRS.out] at h1
  have H1 := Lib.hid h1
  have HMF := Lib.hid hMF
  clear h1 hMF
  go_wp2_with fail
  refine (awakeC rc st w1 (HG.out.below b1)).mono ?_
  rintro e w2 ⟨rfl, b2⟩
  have B2 := b1.trans (b2.mono b1.size)
  go_wp2_with fail
  refine (pathsC M F s rs w2 (H1.out.below b2) (by rw [HN.out]; omega)).mono ?_
  rintro e w3 ⟨v1, rfl, ho1, b3⟩
  rw [HML.out, HPS.out, ← HPL.out] at ho1
  have HS1 := Lib.hid (show Strs (fun b => w2.heap.size ≤ b) w3 v1 ps from Strs.of_own ho1)
  obtain ⟨a1, c1, rfl⟩ := Tab.own_len ho1
  rw [HPL.out, HN.out] at HS1 ⊢
  have B3 := B2.trans (b3.mono B2.size)
  have H3 := Lib.hid ((H1.out.below b2).below b3)
  clear ho1
  go_wp2_with fail
  go_loopw [6, 7, 8, 9, 11, 12, 13, 15, 16, 34] (fun _ _ _ _ _ _ _ _ _ i wr => ∃ k : Nat, k ≤ n ∧ i = .int .i64 k ∧ Below w3.heap.size w3 wr) (fun _ _ _ _ _ _ _ _ _ i _ => n - (intOf i).toNat)
  case atStart => exact ⟨0, Nat.zero_le _, rfl, Below.refl _ _⟩
  case round =>
    obtain ⟨k, hk, rfl, br⟩ := hrel
    have BR := B3.trans (br.mono B3.size)
    by_cases hlt : k < n
    · obtain ⟨rb, ro, rcap, hrv, hcells⟩ := strs_at (HS1.out.below br) (by rw [HPL.out, HN.out]; omega)
      injection hrv with hrv1 hrv2 hrv3
      subst hrv1
      clear hrv2 hrv3
      have hkl : k < ps.length := by rw [HPL.out, HN.out]; exact hlt
      have gk := hcells k hkl
      have hmem : ps[k] ∈ ps := List.getElem_mem _
      obtain ⟨p, hp⟩ : ∃ p, ps[k] = p := ⟨_, rfl⟩
      rw [hp] at gk hmem
      have hhas : Sto.has rs p = true := by
        rw [← HPS.out] at hmem
        obtain ⟨r, hr, rfl⟩ := List.mem_map.1 hmem
        exact Sto.has_of_mem HGOOD.out.rise hr
      have HHAS := Lib.hid hhas
      have e0 : (0 : Int) ≤ (k : Int) := Int.natCast_nonneg _
      have e1 : (k : Int) < (n : Int) := by omega
      clear hcells hp hmem hhas hkl
      go_wp2_with fail
      refine (referrersC M F s rs p wr (H3.out.below br) (by rw [HN.out]; omega)).mono ?_
      rintro e w5 ⟨b5, hm⟩
      rw [HHAS.out] at hm
      obtain ⟨v5, rfl, ho5⟩ := hm
      have br5 := br.trans (b5.mono br.size)
      obtain ⟨a5, c5, rfl⟩ := Tab.own_len ho5
      have HO5 := Lib.hid ho5
      obtain ⟨u, hu⟩ : ∃ u, (refd rs p).length = u := ⟨_, rfl⟩
      have HU := Lib.hid hu
      have hul : u ≤ 1048576 := by rw [← hu]; have := refd_sub (rs := rs) (p := p); rw [HN.out] at this; omega
      rw [hu] at HO5 ⊢
      obtain ⟨hw5, hhw5⟩ : ∃ hw5, wr.heap.size = hw5 := ⟨_, rfl⟩
      rw [hhw5] at HO5
      clear ho5 hu hhw5
      go_wp2_with fail
      go_loopw [9, 11, 12, 13, 15, 50] (fun x9 _ _ _ _ i wr => ∃ j : Nat, ∃ ao m c, j ≤ n ∧ i = .int .i64 j ∧ x9 = .slice ao m c ∧ Hid (m = (refd (rs.take j) p).length ∧ wr.ownsRow w5.heap.size 9 1 (.slice ao m c) m ((refd (rs.take j) p).map .string)) ∧ Below w5.heap.size w5 wr) (fun _ _ _ _ _ i _ => n - (intOf i).toNat)
      case atStart => exact ⟨0, none, 0, 0, Nat.zero_le _, rfl, rfl, Lib.hid ⟨rfl, World.ownsRow_nil _ _ _ _⟩, Below.refl _ _⟩
      case round =>
        obtain ⟨j, ao9, m9, c9, hj, rfl, rfl, HW, bj⟩ := hrel
        have brj := br5.trans (bj.mono br5.size)
        by_cases hlj : j < n
        · obtain ⟨rb2, ro2, rcap2, hrv, hcells⟩ := strs_at (HS1.out.below brj) (by rw [HPL.out, HN.out]; omega)
          injection hrv with hrv1 hrv2 hrv3
          injection hrv1 with hrv1
          injection hrv1 with hv1 hv2 hv3
          subst hv1 hv2
          clear hrv2 hrv3 hv3
          have hjl : j < ps.length := by rw [HPL.out, HN.out]; exact hlj
          have gj := hcells j hjl
          have hjr : j < rs.length := by rw [HN.out]; exact hlj
          have hpj : ps[j] = rs[j].path := by
            have : ps[j]? = some rs[j].path := by rw [← HPS.out, List.getElem?_map, List.getElem?_eq_getElem hjr]; rfl
            rw [List.getElem?_eq_getElem hjl] at this
            exact Option.some.inj this
          have hmj : rs[j] ∈ rs := List.getElem_mem _
          have htk : rs.take (j + 1) = rs.take j ++ [rs[j]] := List.take_succ_eq_append_getElem hjr
          obtain ⟨r, hr⟩ : ∃ r, rs[j] = r := ⟨_, rfl⟩
          rw [hpj, hr] at gj
          rw [hr] at hmj htk
          have HGET := Lib.hid (Sp.get_of_mem HGOOD.out.rise hmj)
          have HTK := Lib.hid htk
          have HND := Lib.hid (refs_nodup (storeClosed.valid_parts (HGOOD.out.valid r hmj)).2.2.2.2)
          have hrb := HBK.out r hmj
          obtain ⟨q, hq⟩ : ∃ q, r.path = q := ⟨_, rfl⟩
          have HQ := Lib.hid hq
          rw [hq] at gj HGET
          have j0 : (0 : Int) ≤ (j : Int) := Int.natCast_nonneg _
          have j1 : (j : Int) < (n : Int) := by omega
          have hrfl : r.refs.length ≤ 2097152 := by unfold Rec.bulk at hrb; have := length_bulks r.refs; omega
          clear hcells hjl hpj hmj htk hr hrb hq
          go_wp2_with fail
          refine (refsC M F s rs q wr (H3.out.below brj) (by rw [HN.out]; omega) HGOOD.out.bulk).mono ?_
          rintro e w6 ⟨b6, hm⟩
          rw [HGET.out] at hm
          obtain ⟨v6, rfl, ho6⟩ := hm
          have bj6 := bj.trans (b6.mono bj.size)
          have HS6 := Lib.hid (show Strs (fun b => wr.heap.size ≤ b) w6 v6 r.refs from Strs.of_own ho6)
          obtain ⟨a6, c6, rfl⟩ := Tab.own_len ho6
          obtain ⟨m6, hm6⟩ : ∃ m6, r.refs.length = m6 := ⟨_, rfl⟩
          have HM6 := Lib.hid hm6
          rw [hm6] at HS6 hrfl ⊢
          have hsz6 : w5.heap.size ≤ w6.heap.size := bj6.size
          obtain ⟨hw, hhw⟩ : ∃ hw, wr.heap.size = hw := ⟨_, rfl⟩
          have HWL := Lib.hid (show w5.heap.size ≤ hw ∧ hw ≤ w6.heap.size from ⟨by rw [← hhw]; exact bj.size, by rw [← hhw]; exact b6.size⟩)
          have HO6 := Lib.hid (show w6.ownsRow hw 9 1 (.slice a6 m6 c6) r.refs.length (r.refs.map .string) from by rw [← hhw]; have h := ho6; rw [hm6] at h ⊢; exact h)
          have hlt9 : ∀ g, (Value.slice ao9 m9 c9).ownBlock = some g → g < hw := fun g e => by rw [← hhw]; exact (HW.out.2.lt g e).2
          have HST := Lib.hid (show m9 = (refd (rs.take j) p ++ hits p r 0).length ∧ w6.ownsRow w5.heap.size 9 1 (.slice ao9 m9 c9) m9 ((refd (rs.take j) p ++ hits p r 0).map .string) ∧ w6.ownsRow hw 9 1 (.slice a6 m6 c6) r.refs.length (r.refs.map .string) ∧ (∀ g, (Value.slice ao9 m9 c9).ownBlock = some g → g < hw ∨ w6.heap.size ≤ g) from by
            rw [hits_zero, List.append_nil]
            exact ⟨HW.out.1, Copy.own_below HW.out.2 b6, HO6.out, fun g e => .inl (hlt9 g e)⟩)
          have hm9 : m9 ≤ 1048576 := by
            rw [HW.out.1]
            have h1 := refd_sub (rs := rs.take j) (p := p)
            rw [List.length_take] at h1
            omega
          clear ho6 hm6 HW HS6 hhw hlt9
          go_wp2_with fail
          go_loopw [9, 15, 64] (fun x9 _ i wr => ∃ t : Nat, ∃ ao m c, t ≤ m6 ∧ i = .int .i64 t ∧ x9 = .slice ao m c ∧ Hid (m = (refd (rs.take j) p ++ hits p r t).length ∧ wr.ownsRow w5.heap.size 9 1 (.slice ao m c) m ((refd (rs.take j) p ++ hits p r t).map .string) ∧ wr.ownsRow hw 9 1 (.slice a6 m6 c6) r.refs.length (r.refs.map .string) ∧ (∀ g, (Value.slice ao m c).ownBlock = some g → g < hw ∨ w6.heap.size ≤ g) ∧ w6.heap.size ≤ wr.heap.size) ∧ Below w5.heap.size w5 wr) (fun _ _ i _ => m6 - (intOf i).toNat)
          case atStart => exact ⟨0, ao9, m9, c9, Nat.zero_le _, rfl, rfl, Lib.hid ⟨HST.out.1, HST.out.2.1, HST.out.2.2.1, HST.out.2.2.2, Nat.le_refl _⟩, bj6⟩
          case round =>
            obtain ⟨t, aoT, mT, cT, ht, rfl, rfl, HT, bt⟩ := hrel
            by_cases hlt6 : t < m6
            · obtain ⟨hmT, hoT, hoR, hap, hz⟩ := HT.out
              have hst6 : Strs (fun b => hw ≤ b) wr (.slice a6 m6 c6) r.refs := Strs.of_own (by have := hoR; rw [HM6.out] at this; rw [HM6.out]; exact this)
              obtain ⟨rb6, ro6, rcap6, hrv, hcells⟩ := strs_at hst6 (by rw [HM6.out]; omega)
              injection hrv with hrv1 hrv2 hrv3
              subst hrv1
              clear hrv2 hrv3
              have htl : t < r.refs.length := by rw [HM6.out]; exact hlt6
              have gt := hcells t htl
              have hnx := hits_next (p := p) HND.out t htl
              obtain ⟨x, hx⟩ : ∃ x, r.refs[t] = x := ⟨_, rfl⟩
              rw [hx] at gt hnx
              have t0 : (0 : Int) ≤ (t : Int) := Int.natCast_nonneg _
              have t1 : (t : Int) < (m6 : Int) := by omega
              have hgo : ∀ g, (Value.slice aoT mT cT).ownBlock = some g → g ≠ rb6 := fun g e e2 => by
                subst e2
                have h1 := hoR.lt g rfl
                have h2 := HO6.out.lt g rfl
                rcases hap g e with h3 | h3 <;> omega
              have hne6 : (Value.slice (some ⟨rb6, ro6, none⟩) m6 c6).ownBlock ≠ (Value.slice aoT mT cT).ownBlock := fun e => hgo rb6 e.symm rfl
              have hszT : w5.heap.size ≤ wr.heap.size := bt.size
              have hmT2 : mT ≤ 1048577 := by
                have h1 := refd_sub (rs := rs.take j) (p := p)
                rw [List.length_take] at h1
                have h2 : (hits p r t).length ≤ 1 := by unfold hits; split <;> simp
                rw [hmT, List.length_append]
                omega
              by_cases hc : x = p ∧ q ≠ p
              · obtain ⟨rfl, hqp⟩ := hc
                have HN2 := Lib.hid (show hits x r (t + 1) = hits x r t ++ [q] by rw [hnx, if_pos ⟨rfl, by rw [HQ.out]; exact hqp⟩, HQ.out])
                have HOT := Lib.hid hoT
                have HOR := Lib.hid (show wr.ownsRow hw 9 1 (.slice (some ⟨rb6, ro6, none⟩) m6 c6) r.refs.length (r.refs.map .string) ∧ (∀ g, (Value.slice aoT mT cT).ownBlock = some g → g < hw ∨ w6.heap.size ≤ g) ∧ w6.heap.size ≤ wr.heap.size from ⟨hoR, hap, hz⟩)
                have HMT := Lib.hid hmT
                have HNE := Lib.hid hne6
                obtain ⟨i0, hi, hz0, hz1, hz2⟩ := info_parts Make.infoStr
                have hoT' := hoT
                have tx : (x.toList == x.toList) = true := by simp
                have tq : (q.toList == x.toList) = false := by rw [Eq.bytes_beq]; exact decide_eq_false hqp
                clear HT hmT hoR hap hz hst6 hcells htl hnx hx hne6 hgo hoT
                go_wp2_with (at_builtin; go_loud (refine wpList_append_own_at _ rfl _ _ 27 rfl w5.heap.size 9 i0 (.string ⟨#[]⟩) 1 16 Tryz.underlying27 hi hz0 hz1 hz2 rfl (by decide) _ _ _ rfl (hoT'.alloc _) ⟨wr.heap.size, 0, none⟩ 1 1 [.string q] rfl rfl (cell_one_new _ _ _) (by simp [Value.oneCell']) (by unfold maxLen; omega) (by omega) (by simp; omega) ?_; intro v' w8 hown8 hgrow hnil hat; obtain ⟨g', cap', rfl⟩ := ownsRow_succ hown8; have HN8 := Lib.hid hown8; have HG8 := Lib.hid hgrow; have HAT := Lib.hid hat; clear hown8 hgrow hnil hat))
                have hba : Below wr.heap.size wr (wr.alloc (.cells #[.string q] 9)) := (Below.refl _ wr).alloc (Nat.le_refl _) _
                have hgw := HG8.out.size
                have hsa : (wr.alloc (.cells #[.string q] 9)).heap.size = wr.heap.size + 1 := by simp
                have hB8 : Below w5.heap.size w5 w8 := (bt.trans (hba.mono bt.size)).grown HG8.out (by omega) (fun k e => (HOT.out.lt k e).1)
                have HF := Lib.hid (show mT + 1 = (refd (rs.take j) x ++ hits x r (t + 1)).length ∧ w8.ownsRow w5.heap.size 9 1 (.slice (some ⟨g', 0, none⟩) (mT + 1) cap') (mT + 1) ((refd (rs.take j) x ++ hits x r (t + 1)).map .string) ∧ w8.ownsRow hw 9 1 (.slice (some ⟨rb6, ro6, none⟩) m6 c6) r.refs.length (r.refs.map .string) ∧ (∀ g, (Value.slice (some ⟨g', 0, none⟩) (mT + 1) cap').ownBlock = some g → g < hw ∨ w6.heap.size ≤ g) ∧ w6.heap.size ≤ w8.heap.size from by
                  rw [HN2.out, ← List.append_assoc, List.length_append, List.map_append, ← HMT.out]
                  refine ⟨rfl, HN8.out, (HOR.out.1.alloc _).kept HG8.out (.inr HNE.out), fun g e => ?_, by have := HOR.out.2.2; omega⟩
                  rcases HAT.out with h | h
                  · rw [h] at e; exact HOR.out.2.1 g e
                  · rw [h] at e
                    have := Option.some.inj e
                    have := HOR.out.2.2
                    exact .inr (by omega))
                clear hoT'
                go_roundw
                case rel => exact ⟨t + 1, _, _, _, by omega, by go_num, rfl, HF, hB8⟩
                case measure => simp [intOf]; omega
              · have HN2 := Lib.hid (show hits p r (t + 1) = hits p r t by rw [hnx, if_neg (fun h => hc ⟨h.1, by rw [← HQ.out]; exact h.2⟩)])
                have HNEW := Lib.hid (show mT = (refd (rs.take j) p ++ hits p r (t + 1)).length ∧ wr.ownsRow w5.heap.size 9 1 (.slice aoT mT cT) mT ((refd (rs.take j) p ++ hits p r (t + 1)).map .string) ∧ wr.ownsRow hw 9 1 (.slice (some ⟨rb6, ro6, none⟩) m6 c6) r.refs.length (r.refs.map .string) ∧ (∀ g, (Value.slice aoT mT cT).ownBlock = some g → g < hw ∨ w6.heap.size ≤ g) ∧ w6.heap.size ≤ wr.heap.size from by
                  rw [HN2.out]; exact ⟨hmT, hoT, hoR, hap, hz⟩)
                clear HT hmT hoT hoR hap hz hst6 hcells htl hnx hx hne6 hgo
                by_cases hxp : x = p
                · subst hxp
                  obtain rfl : q = x := Classical.byContradiction fun h => hc ⟨rfl, h⟩
                  have tx : (q.toList == q.toList) = true := by simp
                  go_wp2_with fail
                  go_roundw
                  case rel => exact ⟨t + 1, _, _, _, by omega, by go_num, rfl, HNEW, bt⟩
                  case measure => simp [intOf]; omega
                · have tx : (x.toList == p.toList) = false := by rw [Eq.bytes_beq]; exact decide_eq_false hxp
                  go_wp2_with fail
                  go_roundw
                  case rel => exact ⟨t + 1, _, _, _, by omega, by go_num, rfl, HNEW, bt⟩
                  case measure => simp [intOf]; omega
            · obtain rfl : t = m6 := by omega
              have HNEW := Lib.hid (show mT = (refd (rs.take (j + 1)) p).length ∧ wr.ownsRow w5.heap.size 9 1 (.slice aoT mT cT) mT ((refd (rs.take (j + 1)) p).map .string) from by
                have h1 := HT.out.1
                have h2 := HT.out.2.1
                rw [← HM6.out, hits_end, ← HTK.out] at h1 h2
                exact ⟨h1, h2⟩)
              clear HT
              go_wp2_with fail
              go_roundw
              case rel => exact ⟨j + 1, _, _, _, by omega, by go_num, rfl, HNEW, bt⟩
              case measure => simp [intOf]; omega
        · have hjn : n = j := by omega
          subst hjn
          have hW := HW.out
          rw [List.take_of_length_le (by rw [HN.out]; exact Nat.le_refl _), HU.out] at hW
          obtain ⟨hWe, hoW⟩ := hW
          have hWe := hWe.symm
          subst hWe
          have HOW := Lib.hid (show wr.ownsRow w5.heap.size 9 1 (.slice ao9 u c9) (refd rs p).length ((refd rs p).map .string) from by rw [HU.out]; exact hoW)
          have HOU := Lib.hid (show w5.ownsRow hw5 9 1 (.slice a5 u c5) (refd rs p).length ((refd rs p).map .string) from by rw [HU.out]; exact HO5.out)
          clear HW hoW HO5
          go_wp2_with fail
          refine (forkC M F s rs wr (H3.out.below brj) (by rw [HN.out]; omega)).mono ?_
          rintro e w7 ⟨M', F', s', rfl, h7, hM7, hF7, b7⟩
          have H7 := Lib.hid h7
          have HM7 := Lib.hid hM7
          clear h7 hM7 hF7
          have brj7 := brj.trans (b7.mono brj.size)
          have hr1 : Texts.Reads w7 (.slice a5 u c5) (refd rs p) := ((Texts.Reads.of_own HOU.out).below bj).below b7
          have hr2 : Texts.Reads w7 (.slice ao9 u c9) (refd rs p) := (Texts.Reads.of_own HOW.out).below b7
          go_wp2_with fail
          refine (Texts.texts w7 _ _ (refd rs p) (refd rs p) hr1 hr2).mono ?_
          rintro e w8 ⟨rfl, sm⟩
          rw [show decide (refd rs p = refd rs p) = true from decide_eq_true rfl]
          have b8 : Below w7.heap.size w7 w8 := sm.below (Below.refl _ _)
          have brj8 := brj7.trans (b8.mono brj7.size)
          clear hr1 hr2 sm
          go_wp2_with fail
          refine (cutC M' F' s' rs p w8 (H7.out.below b8) (by rw [HN.out]; omega)).mono ?_
          rintro e w9 ⟨rfl, M2, h9, kp9, hM9⟩
          have H9 := Lib.hid h9
          have b9 : Below w3.heap.size w8 w9 := Kp.below kp9 brj8.size (fun i hi hm => by have := HM7.out i hm; have := brj.size; omega)
          have brj9 := brj8.trans b9
          have hcl : (cutS rs p).length ≤ 1073741823 := by
            have : (cutS rs p).length ≤ rs.length := by
              unfold cutS; split
              · exact List.length_filter_le _ _
              · exact Nat.le_refl _
            rw [HN.out] at this; omega
          have hcut := has_cut HHAS.out
          have hE : cutE rs p = if refd rs p = [] then 0 else 170 := by unfold cutE; rw [if_pos HHAS.out]
          clear h9 kp9 hM9
          by_cases hu0 : u = 0
          · subst hu0
            have he : refd rs p = [] := List.eq_nil_of_length_eq_zero HU.out
            rw [he, if_pos rfl] at hE
            rw [he, show decide (([] : List ByteArray) ≠ []) = false by simp] at hcut
            rw [hE]
            clear hE he
            go_wp2_with fail
            refine (hasC M2 F' s' (cutS rs p) p w9 H9.out (by omega)).mono ?_
            rintro e w10 ⟨rfl, b10⟩
            rw [hcut]
            have brj10 := brj9.trans (b10.mono brj9.size)
            go_wp2_with fail
            go_roundw
            case rel => exact ⟨k + 1, by omega, by go_num, brj10⟩
            case measure => simp [intOf]; omega
          · have he : refd rs p ≠ [] := fun e => hu0 (by rw [← HU.out, e]; rfl)
            rw [if_neg he] at hE
            rw [decide_eq_true he] at hcut
            rw [hE]
            have t6 : ((u : Int) == 0) = false := by simp; omega
            have t7 : decide (0 < u) = true := decide_eq_true (by omega)
            clear hE he
            go_wp2_with fail
            refine (hasC M2 F' s' (cutS rs p) p w9 H9.out (by omega)).mono ?_
            rintro e w10 ⟨rfl, b10⟩
            rw [hcut]
            have brj10 := brj9.trans (b10.mono brj9.size)
            go_wp2_with fail
            go_roundw
            case rel => exact ⟨k + 1, by omega, by go_num, brj10⟩
            case measure => simp [intOf]; omega
    · have hkn : n = k := by omega
      subst hkn
      have HS2 := Lib.hid (HS1.out.below br)
      have hPS : ∀ q, Rch rs ps q → q.size ≤ maxLen := fun q hq => by
        have := rch_size (N := 2097152) (fun x hx => by
          rw [← HPS.out] at hx
          obtain ⟨r, hr, rfl⟩ := List.mem_map.1 hx
          have := HBK.out r hr
          unfold Rec.bulk at this; omega) (fun r hr x hx => by
          have h1 := mem_bulks hx
          have h2 := HBK.out r hr
          unfold Rec.bulk at h2; omega) hq
        unfold maxLen; omega
      have HRP := Lib.hid (show ∀ q, Rch rs ps q → Sto.has rs q = true from fun q hq => by
        induction hq with
        | root hx =>
          rw [← HPS.out] at hx
          obtain ⟨r, hr, rfl⟩ := List.mem_map.1 hx
          exact Sto.has_of_mem HGOOD.out.rise hr
        | step _ hr hq _ => exact HGOOD.out.closed _ hr _ hq)
      go_wp2_with fail
      refine (orderC M F _ s rs _ ps wr (H3.out.below br) (by rw [HN.out]; omega) HS2.out (by rw [HPL.out, HN.out]; have := HWT.out; unfold wt0 at this; omega) hPS).mono ?_
      rintro e w4 ⟨b4, ⟨q, h1, h2, rfl⟩ | ⟨v4, gs, out, rfl, hrow, hnd, hgs, hpt, hord⟩⟩
      · rw [HRP.out q h1] at h2; cases h2
      · have hall := ord_all HAC.out hgs hnd hpt hord
        have br4 := br.trans (b4.mono br.size)
        have B4 := B3.trans (br4.mono B3.size)
        obtain ⟨a4, c4, rfl⟩ := Tab.own_len hrow
        have HCUT := Lib.hid (fun k (hk : k < out.length) => cut_last hgs hnd HGOOD.out.rise hord.1 k hk)
        have H4 := Lib.hid ((H3.out.below br).below b4)
        have honly : only rs out = rs := only_all fun r hr => (hall _).2 (.root (by rw [← HPS.out]; exact List.mem_map_of_mem hr))
        have hol : out.length ≤ n := by
          rw [← HN.out, ← List.length_map (f := Rec.path)]
          refine nodup_sub hord.1.nodup fun p hp => ?_
          have h1 := HRP.out p ((hall p).1 hp)
          unfold Sto.has at h1
          obtain ⟨r, hr⟩ := Option.isSome_iff_exists.1 h1
          obtain ⟨m1, m2⟩ := Sp.get_some hr
          exact List.mem_map.2 ⟨r, m1, m2⟩
        have hMlt : ∀ b, M b → b < wr.heap.size := fun b hb => (H3.out.below br).lt b (.inl hb)
        have HROW := Lib.hid (show w4.ownsRow wr.heap.size 9 1 (.slice a4 out.length c4) out.length (out.map .string) from hrow)
        have HML2 := Lib.hid hMlt
        obtain ⟨o, ho⟩ : ∃ o, out.length = o := ⟨_, rfl⟩
        have HOL := Lib.hid ho
        have HIS0 := Lib.hid (show Is M F w4 s (only rs (out.take (((o : Int) - 1) + 1).toNat)) from by
          rw [show (((o : Int) - 1) + 1).toNat = o by omega, List.take_of_length_le (by omega), honly]; exact H4.out)
        rw [ho] at hol ⊢
        have hw0 : IntKind.i64.wrap ((o : Int) - 1) = (o : Int) - 1 := by rw [IntKind.wrap_i64]; omega
        clear hrow hnd hgs hpt hord hall honly ho hMlt hPS
        go_wp2_with fail
        generalize wr = w9 at *
        go_loopw [19] (fun i wr => ∃ z : Int, -1 ≤ z ∧ z < (o : Int) ∧ i = .int .i64 z ∧ Hid (Kp M w4 wr ∧ ∃ M', Is M' F wr s (only rs (out.take (z + 1).toNat)) ∧ ∀ b, M' b → M b)) (fun i _ => (intOf i + 1).toNat)
        case atStart => exact ⟨(o : Int) - 1, by omega, by omega, rfl, Lib.hid ⟨Kp.refl _ _, M, HIS0.out, fun _ h => h⟩⟩
        case round =>
          obtain ⟨z, hz1, hz2, rfl, HI⟩ := hrel
          by_cases hz : 0 ≤ z
          · obtain ⟨k, rfl⟩ : ∃ k : Nat, z = k := ⟨z.toNat, by omega⟩
            obtain ⟨kp, M', his, hsub⟩ := HI.out
            have hk : k < out.length := by rw [HOL.out]; omega
            obtain ⟨c1, c2, c3, c4'⟩ := HCUT.out k hk
            rw [show ((k : Int) + 1).toNat = k + 1 by omega] at his
            have hst : ∀ W, Kp M w4 W → W.ownsRow w9.heap.size 9 1 (.slice a4 out.length c4) out.length (out.map .string) := fun W hk => Tab.own_kp HROW.out hk (fun b hb hm => by
              have h1 := (HROW.out.lt b hb).1
              have h2 := HML2.out b hm
              omega)
            have hs1 : Strs (fun b => w9.heap.size ≤ b) wr (.slice a4 out.length c4) out := Strs.of_own (hst wr kp)
            rw [HOL.out] at hs1
            obtain ⟨rb, ro, rcap, hrv, hcells⟩ := strs_at hs1 (by omega)
            rw [HOL.out] at hrv
            injection hrv with hrv1 hrv2 hrv3
            subst hrv1
            clear hrv2 hrv3
            have gk := hcells k hk
            have hcell2 : ∀ W, Kp M w4 W → W.cell? ⟨rb, ro + k, none⟩ = some (.string out[k]) := fun W hkp => by
              have h1 : Strs (fun b => w9.heap.size ≤ b) W (.slice (some ⟨rb, ro, none⟩) out.length c4) out := Strs.of_own (hst W hkp)
              obtain ⟨rb', ro', rcap', hrv', hcells'⟩ := strs_at h1 (by omega)
              injection hrv' with e1 e2 e3
              injection e1 with e1
              injection e1 with e4 e5 e6
              subst e4 e5
              exact hcells' k hk
            obtain ⟨p, hp⟩ : ∃ p, out[k] = p := ⟨_, rfl⟩
            rw [hp] at gk hcell2 c1 c2 c3 c4'
            have HC2 := Lib.hid hcell2
            have HKP := Lib.hid kp
            have HSUB := Lib.hid hsub
            have hlen1 : (only rs (out.take (k + 1))).length ≤ 1073741823 := by
              have : (only rs (out.take (k + 1))).length ≤ rs.length := List.length_filter_le _ _
              rw [HN.out] at this; omega
            have hlen2 : (only rs (out.take k)).length ≤ 1073741823 := by
              have : (only rs (out.take k)).length ≤ rs.length := List.length_filter_le _ _
              rw [HN.out] at this; omega
            have hcut1 := cutC M' F s _ p wr his hlen1
            rw [c1, c2] at hcut1
            have hcut2 := fun M'' W hi => cutC M'' F s _ p W hi hlen2
            rw [c3, c4'] at hcut2
            have HCC := Lib.hid hcut2
            have k0 : (0 : Int) ≤ (k : Int) := Int.natCast_nonneg _
            have k1 : (k : Int) < (o : Int) := by omega
            clear hcells hcell2 c1 c2 c3 c4' his hsub kp HI hs1 hst hp hcut2 hlen1 hlen2
            go_wp2_with fail
            refine hcut1.mono ?_
            rintro e wa ⟨rfl, M1, his1, kp1, hsub1⟩
            have kpA : Kp M w4 wa := HKP.out.trans kp1 (fun _ _ h => h) (fun i _ h => HSUB.out i h)
            have gk2 := HC2.out wa kpA
            have HA := Lib.hid (show Is M1 F wa s (only rs (out.take k)) ∧ (∀ b, M1 b → M b) ∧ Kp M w4 wa from ⟨his1, fun b h => HSUB.out b (hsub1 b h), kpA⟩)
            clear his1 kp1 hsub1 kpA hcut1
            go_wp2_with fail
            refine (HCC.out M1 wa HA.out.1).mono ?_
            rintro e wb ⟨rfl, M2, his2, kp2, hsub2⟩
            have HNEW := Lib.hid (show Kp M w4 wb ∧ ∃ M', Is M' F wb s (only rs (out.take (((k : Int) - 1) + 1).toNat)) ∧ ∀ b, M' b → M b from by
              rw [show (((k : Int) - 1) + 1).toNat = k by omega]
              exact ⟨HA.out.2.2.trans kp2 (fun _ _ h => h) (fun i _ h => HA.out.2.1 i h), M2, his2, fun b h => HA.out.2.1 b (hsub2 b h)⟩)
            have hw1 : IntKind.i64.wrap ((k : Int) - 1) = (k : Int) - 1 := by rw [IntKind.wrap_i64]; omega
            clear his2 kp2 hsub2 gk2
            go_wp2_with fail
            go_roundw
            case rel => exact ⟨(k : Int) - 1, by omega, by omega, rfl, HNEW⟩
            case measure => simp [intOf]
          · obtain rfl : z = -1 := by omega
            obtain ⟨kp, M', his, hsub⟩ := HI.out
            rw [show ((-1 : Int) + 1).toNat = 0 from rfl, List.take_zero, only_nil] at his
            have HA := Lib.hid his
            have BZ : Below w.heap.size w wr := B4.trans (Kp.below kp B4.size (fun i hi hm => by have := HMF.out i (.inl hm); omega))
            clear his kp hsub HI
            go_wp2_with fail
            refine (St.lenC M' F s [] wr HA.out).mono ?_
            rintro e wa ⟨rfl, rfl⟩
            go_wp2_with fail
            refine (bytesC M' F s [] wa HA.out (by simp) (fun r hr => by cases hr)).mono ?_
            rintro e wc ⟨rfl, ba⟩
            have BA := BZ.trans (ba.mono BZ.size)
            go_wp2_with fail
            refine (pathsC M' F s [] wc (HA.out.below ba) (by simp)).mono ?_
            rintro e wb ⟨vb, rfl, hob, bb⟩
            obtain ⟨ab, cb, rfl⟩ := Tab.own_len hob
            have BB := BA.trans (bb.mono BA.size)
            clear hob
            go_wp2_with fail
            go_ret
            exact ⟨rfl, BB⟩
end Go.Proofs.YtmmmghpimdfleaaGreatDoor.storeBack
