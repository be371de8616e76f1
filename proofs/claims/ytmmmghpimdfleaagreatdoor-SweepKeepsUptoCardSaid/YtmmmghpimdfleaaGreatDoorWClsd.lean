/-
  StoreClosed: the walk of the law.
-/
import Derived.Test.YtmmmghpimdfleaaGreatDoorStock
import Derived.Test.YtmmmghpimdfleaaGreatDoorGrpW
import Derived.Test.YtmmmghpimdfleaaGreatDoorGrpY
import Derived.Test.YtmmmghpimdfleaaGreatDoorGrpX
set_option linter.unusedVariables false
set_option linter.unusedSimpArgs false
namespace Go.Proofs.YtmmmghpimdfleaaGreatDoor.storeClosed
open Go.RowKit Mem Tr St
open Go.Proofs.YtmmmghpimdfleaaGreatDoor.Own

theorem valid_parts {rc st : Nat → BitVec 32} {r : Rec} (h : Sto.validE rc st r = 0) : Pre.parseErr r.path = 0 ∧ Sum.codeOf r.tree = 0 ∧ r.size = ((Sum.bytesOf r.tree).length : Nat) ∧ r.hash = Sum.digOf rc st r.tree ∧ Pre.refsE r.refs = 0 := by
  unfold Sto.validE at h
  split at h
  · split at h
    · split at h
      · split at h
        · exact ⟨by assumption, by assumption, by assumption, by assumption, h⟩
        · cases h
      · cases h
    · rename_i h1; exact absurd h h1
  · rename_i h1; exact absurd h h1
theorem small_of {rc st : Nat → BitVec 32} {rs : List Rec} (hg : Sto.Good rc st rs) (hb : ∀ r ∈ rs, r.bulk ≤ 2097152) : Small rs := fun r hr => by
  have h1 := (valid_parts (hg.valid r hr)).2.2.1
  have h2 := hb r hr
  have h3 : (Sum.bytesOf r.tree).length ≤ 1073741824 := by
    have h4 : (Sum.bytesOf r.tree).length ≤ _ := Nar.serial_length r.tree.kind r.tree.exec r.tree.text r.tree.kids
    unfold Rec.bulk Tree.bulk at h2
    omega
  omega
theorem small_take {rs : List Rec} (h : Small rs) (k : Nat) : Small (rs.take k) := fun r hr => h r (List.mem_of_mem_take hr)

set_option maxHeartbeats 8000000 in
set_option maxRecDepth 20000 in
theorem walk {rc st : Nat → BitVec 32} (w : World) (hg : Sum.Gl rc st w) (v : Value) (l : List Rec) (hr : Op.Recs (fun b => b < w.heap.size) w v l) (hb : Op.bulkR l ≤ 2097152) :
    Calls Tryz.prog 5 #[v] w fun e w' => e = .returned (.bool true) ∧ Below w.heap.size w w' := by
  have HR := Lib.hid hr
  have HG := Lib.hid hg
  have hK := stk rc st l (by omega)
  obtain ⟨rs, hrs⟩ : ∃ rs, stockF rc st [] l = rs := ⟨_, rfl⟩
  have HRS := Lib.hid hrs
  rw [hrs] at hK
  have hll := bulkR_len l
  have hrl : rs.length ≤ 1048576 := by have := hK.len; omega
  have HGOOD := Lib.hid hK.good
  have HSM := Lib.hid (small_of hK.good (fun r hr => by have := bulkR_mem (hK.mem r hr); omega))
  have HML := Lib.hid (show (rs.map fun r => Value.string r.path) = (rs.map Rec.path).map Value.string by rw [List.map_map]; rfl)
  obtain ⟨ps, hps⟩ : ∃ ps, rs.map Rec.path = ps := ⟨_, rfl⟩
  have HPS := Lib.hid hps
  have HPL : Hid (ps.length = rs.length) := Lib.hid (by rw [← hps, List.length_map])
  obtain ⟨n, hnn⟩ : ∃ n, rs.length = n := ⟨_, rfl⟩
  have HN := Lib.hid hnn
  rw [hnn] at hrl
  clear hr hg hK hll hrs hps hnn
  go_enter Tryz.func5, Tryz.ntmps5
  go_wp2_with fail
  refine (stockedC17 rc st v l w HG.out HR.out (by omega)).mono ?_
  rintro e w1 ⟨M, F, s, rfl, h1, hMF, b1⟩
  rw [HRS.out] at h1
  have H1 := Lib.hid h1
  clear h1 hMF
  go_wp2_with fail
  refine (awakeC rc st w1 (HG.out.below b1)).mono ?_
  rintro e w2 ⟨rfl, b2⟩
  have B2 := b1.trans (b2.mono b1.size)
  go_wp2_with fail
  refine (pathsC M F s rs w2 (H1.out.below b2) (by rw [HN.out]; omega)).mono ?_
  rintro e w3 ⟨v1, rfl, ho1, b3⟩
  rw [HML.out, HPS.out, ← HPL.out] at ho1
  have HS1 := Lib.hid (show Strs (fun b => w2.heap.size ≤ b) w3 v1 ps from Strs.of_own ho1)
  obtain ⟨a1, c1, rfl⟩ := Tab.own_len ho1
  rw [HPL.out, HN.out] at HS1 ⊢
  have B3 := B2.trans (b3.mono B2.size)
  have H3 := Lib.hid ((H1.out.below b2).below b3)
  clear ho1
  go_wp2_with fail
  go_loopw [4, 6, 7, 8, 9, 10, 11, 12, 13, 14, 16, 30] (fun x4 _ _ _ _ _ _ _ _ _ _ i wr => ∃ k : Nat, k ≤ n ∧ i = .int .i64 k ∧ x4 = .int .i64 (sumZ (rs.take k)) ∧ Below w3.heap.size w3 wr) (fun _ _ _ _ _ _ _ _ _ _ _ i _ => n - (intOf i).toNat)
  case atStart => exact ⟨0, Nat.zero_le _, rfl, rfl, Below.refl _ _⟩
  case round =>
    obtain ⟨k, hk, rfl, rfl, br⟩ := hrel
    have BR := B3.trans (br.mono B3.size)
    by_cases hlt : k < n
    · obtain ⟨rb, ro, rcap, hrv, hcells⟩ := strs_at (HS1.out.below br) (by rw [HPL.out, HN.out]; omega)
      injection hrv with hrv1 hrv2 hrv3
      subst hrv1
      clear hrv2 hrv3
      have hkl : k < ps.length := by rw [HPL.out, HN.out]; exact hlt
      have gk := hcells k hkl
      have hkr : k < rs.length := by rw [HN.out]; exact hlt
      have hpk : ps[k] = rs[k].path := by
        have : ps[k]? = some rs[k].path := by rw [← HPS.out, List.getElem?_map, List.getElem?_eq_getElem hkr]; rfl
        rw [List.getElem?_eq_getElem hkl] at this
        exact Option.some.inj this
      have hmem : rs[k] ∈ rs := List.getElem_mem _
      have hsnoc : sumZ (rs.take (k + 1)) = sumZ (rs.take k) + rs[k].size := by rw [List.take_succ_eq_append_getElem hkr, sumZ_snoc]
      have hz1 := sumZ_le (small_take HSM.out k)
      obtain ⟨r, hr⟩ : ∃ r, rs[k] = r := ⟨_, rfl⟩
      rw [hpk, hr] at gk
      rw [hr] at hmem hsnoc
      have hget : Sp.get Rec.path rs r.path = some r := Sp.get_of_mem HGOOD.out.rise hmem
      have hrb : r.bulk ≤ 4194304 := HGOOD.out.bulk r hmem
      have hrt : r.tree.bulk ≤ 4194304 := by unfold Rec.bulk at hrb; omega
      obtain ⟨v1, v2, v3, v4, v5⟩ := valid_parts (HGOOD.out.valid r hmem)
      obtain ⟨hs0, hs1⟩ := HSM.out r hmem
      have HCL := Lib.hid (HGOOD.out.closed r hmem)
      have HGET := Lib.hid hget
      have hkn : (rs.take k).length ≤ 1048576 := by rw [List.length_take]; omega
      have HSN := Lib.hid hsnoc
      obtain ⟨Z, hZ⟩ : ∃ Z, sumZ (rs.take k) = Z := ⟨_, rfl⟩
      rw [hZ] at hz1 HSN ⊢
      obtain ⟨q, hq⟩ : ∃ q, r.path = q := ⟨_, rfl⟩
      have HQ := Lib.hid hq
      have hZ0 : 0 ≤ Z := hz1.1
      have hZ1 : Z ≤ 1125899906842624 := by have := hz1.2; omega
      have hP := fun w1 => Pre.parseC r.path w1
      have hpe : Pre.parseE r.path = .tuple #[.string (Pre.pHash r.path), .string (Pre.pLab r.path), .int .i64 0] := by unfold Pre.parseE; rw [if_pos v1]
      rw [hpe] at hP
      obtain ⟨pa, hpa⟩ : ∃ pa, Pre.pHash r.path = pa := ⟨_, rfl⟩
      obtain ⟨pb, hpb⟩ : ∃ pb, Pre.pLab r.path = pb := ⟨_, rfl⟩
      rw [hpa, hpb, hq] at hP
      rw [hq] at gk
      have V := Lib.hid (show Sum.codeOf r.tree = 0 ∧ r.size = ((Sum.bytesOf r.tree).length : Nat) ∧ r.hash = Sum.digOf rc st r.tree ∧ Pre.refsE r.refs = 0 from ⟨v2, v3, v4, v5⟩)
      have e0 : (0 : Int) ≤ (k : Int) := Int.natCast_nonneg _
      have e1 : (k : Int) < (n : Int) := by omega
      clear hcells hr hget hpk hrb v1 v2 v3 v4 v5 hmem hsnoc hz1 hkn hZ hpe hpa hpb hq
      go_wp2_with fail
      have hG := getC M F s rs r.path wr (H3.out.below br) (by rw [HN.out]; omega) HGOOD.out.bulk
      rw [HQ.out] at hG
      refine hG.mono ?_
      clear hG
      rintro e w4 ⟨b4, hm⟩
      rw [← HQ.out, HGET.out] at hm
      obtain ⟨cs, rfl, hrec⟩ := hm
      have hl := hrec.length
      have hoc := Tab.recOne hrec
      replace hrec := hrec.sub (S' := fun b => b < w4.heap.size) (fun b h _ => h)
      obtain ⟨kv, rv, hcs, hh, hkk, hrr⟩ := hrec
      have HKK := Lib.hid hkk
      have HRR := Lib.hid hrr
      obtain ⟨ao3, cap3, rfl, _, _, _⟩ := hkk
      obtain ⟨ao4, cap4, rfl, _, _, _⟩ := hrr
      have HCS := Lib.hid hcs
      have br4 := br.trans (b4.mono br.size)
      clear hcs
      go_wp2_with (refine wpList_store_mid (by rfl) 31 _ _ (by rfl) w4.heap.size 0 cs.toArray (by rfl) (by rfl) ?s4 ?s5 ?s6 ?_; rotate_right; refine Mem.named ?_; intro W5 hW5; have x5 : RB W5 w4.heap.size r (.slice ao3 r.tree.kids.len cap3) (.slice ao4 r.refs.length cap4) := ⟨by have := stash_bx hW5 (hl.symm); rw [HCS.out] at this; exact this, hh⟩; have k1 := x5.c1; have k2 := x5.c2; have k3 := x5.c3; have k4 := x5.c4; have b5 := stash hW5; have X5 := Lib.hid x5; clear x5)
      case s4 => first | exact (Bx.new w4 Ins.zeroRec.cells 31).there 39 rfl | exact (Bx.new w4 Ins.zeroRec.cells 31).there _ (by rw [show cs.toArray.size = 39 by simpa using hl]; rfl)
      case s5 => first | exact infoEx | (rw [List.size_toArray, hl]; kernel_rfl)
      case s6 => first | exact hoc | exact all_oneCell_toArray hoc
      have br5 := br4.trans (b5.mono br4.size)
      clear hW5 k1 k2 k3 k4
      refine (Sum.sumC rc st _ r.tree _ W5 (HG.out.below (B3.trans (br5.mono B3.size))) (HKK.out.below b5) (fun b h => Nat.lt_of_lt_of_le h b5.size) hrt).mono ?_
      rintro e w6 ⟨rfl, b6⟩
      have br6 := br5.trans (b6.mono br5.size)
      have X6 := Lib.hid (X5.out.below b6)
      have hD : (Sum.digOf rc st r.tree).length = 32 := Sum.digOf_length _ _ _
      rw [show Sum.sumV rc st r.tree = .tuple #[.agg (Lib.byteCells (Sum.digOf rc st r.tree)).toArray, .int .i64 r.size, .int .i64 0] by unfold Sum.sumV; rw [if_pos V.out.1, V.out.2.1], ← V.out.2.2.1]
      obtain ⟨DC, hDC⟩ : ∃ DC, Lib.byteCells r.hash = DC := ⟨_, rfl⟩
      have hDCl : DC.length = 32 := by rw [← hDC, Lib.byteCells_length, hh]
      have hDCo : ∀ v ∈ DC, v.oneCell' = true := by rw [← hDC]; exact bytes_one r.hash
      have HDC := Lib.hid hDC
      obtain ⟨z, hz⟩ : ∃ z, r.size = z := ⟨_, rfl⟩
      have HZ := Lib.hid hz
      rw [hDC, hz]
      rw [hz] at hs0 hs1 HSN
      have hw : IntKind.i64.wrap (Z + z) = Z + z := by unfold IntKind.wrap; simp [IntKind.bits, IntKind.signed]; omega
      clear hDC hz hD
      go_wp2_with (refine wpList_store_mid (by rfl) 29 _ _ (by rfl) w6.heap.size 0 DC.toArray (by rfl) (by rfl) ?a4 ?a5 ?a6 ?_; rotate_right; refine Mem.named ?_; intro W7 hW7)
      case a4 => exact (Bx.new w6 _ _).there _ (by rw [show DC.toArray.size = 32 by simpa using hDCl]; rfl)
      case a5 => rw [List.size_toArray, hDCl]; kernel_rfl
      case a6 => exact all_oneCell_toArray hDCo
      have r2 := stash_range hW7 (hDCl.symm)
      have b7 := stash hW7
      have br7 := br6.trans (b7.mono br6.size)
      have X7 := Lib.hid (X6.out.below b7)
      have R7 := Lib.hid r2
      clear hW7 r2
      refine (hP W7).mono ?_
      rintro e w8 ⟨rfl, b8⟩
      clear hP
      have br8 := br7.trans (b8.mono br7.size)
      have X8 := Lib.hid (X7.out.below b8)
      have r1 := X8.out.hash
      rw [HDC.out] at r1
      have r2 := range_below R7.out b8
      have hu := Tryz.underlying29
      have hq : ∀ w, (Op.equalIn 10000 29 (.agg DC.toArray) (.agg DC.toArray)).run Tryz.prog w = .ok true w := fun w => by
        have := eqDig r.hash r.hash hh hh w
        rw [HDC.out] at this
        rw [this]; congr 1; simp
      have k0 := X8.out.c0
      rw [HQ.out] at k0
      have k5 := X8.out.c5
      have k38 := X8.out.c38
      rw [HZ.out] at k38
      have hRE := fun w1 hr => Pre.refsC (.slice ao4 r.refs.length cap4) r.refs w1 hr
      rw [V.out.2.2.2] at hRE
      have HRR8 := Lib.hid (HRR.out.below (b5.trans ((b6.trans ((b7.trans (b8.mono b7.size)).mono b6.size)).mono b5.size)))
      obtain ⟨m, hm⟩ : ∃ m, r.refs.length = m := ⟨_, rfl⟩
      have HM := Lib.hid hm
      rw [hm] at k5 hRE HRR8 X5 X6 X7 X8
      clear hm
      go_wp2_with (first
        | (refine wpList_load_midG (by first | rfl | simp [Region.wanted, yielded]) 29 _ (by rfl) w4.heap.size 6 (by rfl) DC _ r1 hu rfl (by rw [hDCl]; kernel_rfl) ?_)
        | (refine wpList_load_midG (by first | rfl | simp [Region.wanted, yielded]) 29 _ (by rfl) w6.heap.size 0 (by rfl) DC _ r2 hu rfl (by rw [hDCl]; kernel_rfl) ?_))
      refine (hRE w8 HRR8.out.reads).mono ?_
      rintro e w9 ⟨rfl, b9⟩
      clear hRE
      have br9 := br8.trans (b9.mono br8.size)
      have X9 := Lib.hid (X8.out.below b9)
      have k5 := X9.out.c5
      have HRR9 := Lib.hid (HRR8.out.below b9)
      have hml : m ≤ 1024 := by
        have := V.out.2.2.2
        unfold Pre.refsE at this
        split at this
        · cases this
        · rw [← HM.out]; omega
      go_wp2_with fail
      go_loopw [16, 92] (fun _ i wq => ∃ j : Nat, j ≤ m ∧ i = .int .i64 j ∧ Below w9.heap.size w9 wq) (fun _ i _ => m - (intOf i).toNat)
      case atStart => exact ⟨0, Nat.zero_le _, rfl, Below.refl _ _⟩
      case round =>
        obtain ⟨j, hj, rfl, bq⟩ := hrel
        have brq := br9.trans (bq.mono br9.size)
        by_cases hlj : j < m
        · obtain ⟨rb2, ro2, rcap2, hrv, hcells⟩ := strs_at (HRR9.out.below bq) (by rw [HM.out]; omega)
          injection hrv with hrv1 hrv2 hrv3
          subst hrv1
          clear hrv2 hrv3
          have hjl : j < r.refs.length := by rw [HM.out]; exact hlj
          have gj := hcells j hjl
          have hin : Sto.has rs r.refs[j] = true := HCL.out _ (List.getElem_mem _)
          obtain ⟨y, hy⟩ : ∃ y, r.refs[j] = y := ⟨_, rfl⟩
          rw [hy] at gj hin
          have hH := hasC M F s rs y wr (H3.out.below brq) (by rw [HN.out]; omega)
          rw [hin] at hH
          have j0 : (0 : Int) ≤ (j : Int) := Int.natCast_nonneg _
          have j1 : (j : Int) < (m : Int) := by omega
          clear hcells hy hin
          go_wp2_with fail
          refine hH.mono ?_
          rintro e w10 ⟨rfl, b10⟩
          have bq2 := bq.trans (b10.mono bq.size)
          go_wp2_with fail
          go_roundw
          case rel => exact ⟨j + 1, by omega, by go_num, bq2⟩
          case measure => simp [intOf]; omega
        · obtain rfl : j = m := by omega
          go_wp2_with fail
          go_roundw
          case rel => exact ⟨k + 1, by omega, by go_num, by rw [HSN.out], brq⟩
          case measure => simp [intOf]; omega
    · obtain rfl : k = n := by omega
      have e4 : sumZ (rs.take k) = sumZ rs := by rw [← HN.out, List.take_length]
      rw [e4]
      clear e4
      go_wp2_with fail
      refine (bytesC M F s rs wr (H3.out.below br) (by rw [HN.out]; omega) HSM.out).mono ?_
      rintro e w4 ⟨rfl, b4⟩
      go_wp2_with fail
      go_ret
      exact ⟨by first | rfl | simp, BR.trans (b4.mono BR.size)⟩
end Go.Proofs.YtmmmghpimdfleaaGreatDoor.storeClosed
