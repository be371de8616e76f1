/-
  StoreAdds: the walk of the law.
-/
import Derived.Test.YtmmmghpimdfleaaGreatDoorStock
import Derived.Test.YtmmmghpimdfleaaGreatDoorAwk
set_option linter.unusedVariables false
set_option linter.unusedSimpArgs false
namespace Go.Proofs.YtmmmghpimdfleaaGreatDoor.storeAdds
open Go.RowKit Mem Tr St
open Go.Proofs.YtmmmghpimdfleaaGreatDoor.Own

theorem lacks_of {rs : List Rec} {x : Rec} (h : ∀ q ∈ x.refs, q = x.path ∨ Sto.has rs q = true) : Sto.lacks rs x = false := by
  unfold Sto.lacks
  rw [List.any_eq_false]
  intro q hq
  rcases h q hq with e | e
  · simp [e]
  · simp [e]
theorem has_ins {rc st : Nat → BitVec 32} {rs : List Rec} (hr : Sp.Rising Rec.path rs) {r : Rec} {q : ByteArray} (h : Sto.has rs q = true) : Sto.has (Sto.insS rc st rs r) q = true := by
  unfold Sto.insS
  split
  · split
    · exact h
    · rename_i hn
      rw [Sto.has_put hr hn, h, Bool.or_true]
  · exact h
theorem addE_make {rc st : Nat → BitVec 32} {rs : List Rec} {label : ByteArray} {T : Tree} {refs : List ByteArray} (h1 : Sum.codeOf T = 0) (h2 : Make.makeErr refs label = 0) :
    addE rc st rs label T refs = Sto.insE rc st rs (addRec rc st label T refs) ∧ addS rc st rs label T refs = Sto.insS rc st rs (addRec rc st label T refs) := by
  unfold addE addS
  rw [if_pos h1, if_pos h2, if_pos ⟨h1, h2⟩]
  exact ⟨rfl, rfl⟩
theorem valid_mk {rc st : Nat → BitVec 32} {label : ByteArray} {T : Tree} {refs : List ByteArray} (h1 : Sum.codeOf T = 0) (h2 : Make.makeErr refs label = 0) : Sto.validE rc st (addRec rc st label T refs) = 0 := by
  unfold Make.makeErr at h2
  split at h2
  · rename_i hl
    exact valid_add rc st h1 hl h2
  · rename_i h; exact absurd h2 h
theorem ins_cases {rc st : Nat → BitVec 32} {rs : List Rec} (hr : Sp.Rising Rec.path rs) {x : Rec} (hv : Sto.validE rc st x = 0) (hl : ∀ q ∈ x.refs, q = x.path ∨ Sto.has (Sto.insS rc st rs x) q = true) :
    (Sto.insE rc st rs x = 8 ∧ Sto.has (Sto.insS rc st rs x) x.path = true) ∨ (Sto.insE rc st rs x = 0 ∧ Sp.get Rec.path (Sto.insS rc st rs x) x.path = some x) := by
  have hl2 : Sto.lacks rs x = false := by
    by_cases he : Sto.insE rc st rs x = 0
    · exact (Sto.insE_valid he).2
    · have e : Sto.insS rc st rs x = rs := by unfold Sto.insS; rw [if_neg he]
      rw [e] at hl
      exact lacks_of hl
  have hE : Sto.insE rc st rs x = match Sp.get Rec.path rs x.path with | some old => if old = x then 0 else 8 | none => 0 := by
    unfold Sto.insE; rw [if_pos hv, hl2]; rfl
  cases hg : Sp.get Rec.path rs x.path with
  | none =>
    rw [hg] at hE
    refine .inr ⟨hE, ?_⟩
    unfold Sto.insS
    rw [if_pos hE, hg]
    show Sp.get Rec.path (Sp.put Rec.path rs x) x.path = _
    rw [Sp.get_put hr hg, if_pos rfl]
  | some old =>
    rw [hg] at hE
    by_cases ho : old = x
    · have hE0 : Sto.insE rc st rs x = 0 := by rw [hE]; exact if_pos ho
      refine .inr ⟨hE0, ?_⟩
      unfold Sto.insS
      rw [if_pos hE0, hg]
      show Sp.get Rec.path rs x.path = _
      rw [hg, ho]
    · have hE8 : Sto.insE rc st rs x = 8 := by rw [hE]; exact if_neg ho
      refine .inl ⟨hE8, ?_⟩
      unfold Sto.insS
      rw [if_neg (by rw [hE8]; decide)]
      unfold Sto.has
      rw [hg]; rfl
theorem ins_lack {rc st : Nat → BitVec 32} {rs : List Rec} (hr : Sp.Rising Rec.path rs) {x : Rec} (hv : Sto.validE rc st x = 0) {q : ByteArray} (hq : q ∈ x.refs) (hne : q ≠ x.path) (hn : Sto.has (Sto.insS rc st rs x) q = false) : Sto.insE rc st rs x = 3 := by
  have hn2 : Sto.has rs q = false := by
    cases h : Sto.has rs q
    · rfl
    · rw [has_ins hr h] at hn; cases hn
  have hl : Sto.lacks rs x = true := by
    unfold Sto.lacks
    rw [List.any_eq_true]
    exact ⟨q, hq, by rw [decide_eq_true hne, hn2]; rfl⟩
  unfold Sto.insE
  rw [if_pos hv, hl, if_pos rfl]

theorem stash_bx {w2 W : World} {Z : Array Value} {T : TypeId} {cs : List Value} (hW : (w2.alloc (.cells Z T)).setCells w2.heap.size 0 cs = W) (hz : Z.size = cs.length) : Bx W w2.heap.size cs.toArray T := by
  obtain ⟨zs, hb, hs⟩ := bx_setCells cs 0 _ (Bx.new w2 Z T)
  have hr := stash_range hW hz
  rw [hW] at hb
  have e : zs = cs.toArray := by
    apply Array.ext
    · simp; omega
    · intro j h1 h2
      have hj : j < cs.length := by simpa using h2
      have h3 := hr j cs[j] (List.getElem?_eq_getElem hj)
      rw [Nat.zero_add, hb.cell, Array.getElem?_eq_getElem h1] at h3
      simpa using Option.some.inj h3
  rw [← e]; exact hb

set_option maxHeartbeats 8000000 in
set_option maxRecDepth 20000 in
theorem walk {rc st : Nat → BitVec 32} (w : World) (hg : Sum.Gl rc st w) (v : Value) (l : List Rec) (hr : Op.Recs (fun b => b < w.heap.size) w v l) (label : ByteArray) (x : Rec) (cs : List Value) (hx : RecAt (fun b => b < w.heap.size) w cs x)
    (hcap : ∀ kv n cap, cs = x.cells kv (.slice none n cap) → cap = 0) (hb : Op.bulkR l + 2 * label.size + x.bulk ≤ 2097152) (hb2 : bulks x.refs ≤ 1048576) :
    Calls Tryz.prog 3 #[v, .string label, .agg cs.toArray] w fun e w' => e = .returned (.bool true) ∧ Below w.heap.size w w' := by
  have HR := Lib.hid hr
  have HG := Lib.hid hg
  have hbl : Op.bulkR l ≤ 2097152 := by omega
  have hK := stk rc st l (by omega)
  obtain ⟨rs, hrs⟩ : ∃ rs, stockF rc st [] l = rs := ⟨_, rfl⟩
  have HRS := Lib.hid hrs
  rw [hrs] at hK
  have hll := bulkR_len l
  have hrl : rs.length ≤ 4194304 := by have := hK.len; omega
  have HGOOD := Lib.hid hK.good
  obtain ⟨kv, rv, hcs, hh, hkk, hrr⟩ := hx
  have hxb : x.tree.bulk ≤ 2097152 := by unfold Rec.bulk at hb; omega
  have HKK := Lib.hid hkk
  have HRR := Lib.hid hrr
  have HCAP := Lib.hid (show ∀ n cap, rv = .slice none n cap → cap = 0 from fun n cap h => hcap kv n cap (by rw [hcs, h]))
  obtain ⟨ao, cap, rfl, _, _, _⟩ := hkk
  obtain ⟨ao2, cap2, rfl, _, _, _⟩ := hrr
  have HCS := Lib.hid hcs
  clear hr hg hK hll hrs hcs hcap hb
  go_enter Tryz.func3, Tryz.ntmps3
  go_wp2_with fail
  refine calls_named fun w0 hw0 => ?_
  obtain ⟨b0, x0⟩ := alloc_fact hw0
  have X0 := Lib.hid (show RB w0 w.heap.size x (.slice ao x.tree.kids.len cap) (.slice ao2 x.refs.length cap2) from ⟨by rw [← HCS.out]; exact x0, hh⟩)
  clear hw0 x0
  refine (stockedC17 rc st v l w0 (HG.out.below b0) ((Op.Recs.below HR.out b0).mono fun b h => Nat.lt_of_lt_of_le h b0.size) (by omega)).mono ?_
  rintro e w1 ⟨M, F, s, rfl, h1, hMF, b1⟩
  rw [HRS.out] at h1
  have B1 := b0.trans (b1.mono b0.size)
  have H1 := Lib.hid h1
  have HMF := Lib.hid hMF
  have X1 := Lib.hid (X0.out.below b1)
  clear h1 hMF
  go_wp2_with fail
  refine (awakeC rc st w1 (HG.out.below B1)).mono ?_
  rintro e w2 ⟨rfl, b2⟩
  have B2 := B1.trans (b2.mono B1.size)
  have X2 := Lib.hid (X1.out.below b2)
  have g1 := X2.out.c1
  have g2 := X2.out.c2
  have g3 := X2.out.c3
  have g4 := X2.out.c4
  have g5 := X2.out.c5
  go_wp2_with fail
  refine (addC rc st M F (fun b => b < w.heap.size) (fun b => b < w.heap.size) s rs label x.tree x.refs _ _ w2 (H1.out.below b2) (HG.out.below B2) (HKK.out.below B2) (HRR.out.below B2)
    (fun b h => Nat.lt_of_lt_of_le h B2.size) (fun b h => Nat.lt_of_lt_of_le h B2.size) HCAP.out HGOOD.out hxb hb2 (by omega)).mono ?_
  rintro e w3 ⟨rfl, M', F', h3, k3, m3, f3⟩
  have HRISE := Lib.hid HGOOD.out.rise
  obtain ⟨E, hE⟩ : ∃ E, addE rc st rs label x.tree x.refs = E := ⟨_, rfl⟩
  obtain ⟨P, hP⟩ : ∃ P, addP rc st rs label x.tree x.refs = P := ⟨_, rfl⟩
  obtain ⟨RS, hRS⟩ : ∃ RS, addS rc st rs label x.tree x.refs = RS := ⟨_, rfl⟩
  rw [hRS] at h3
  rw [hE, hP]
  have HE := Lib.hid hE
  have HP := Lib.hid hP
  have HS := Lib.hid hRS
  have z0 := b0.size
  have lx := X0.out.bx.lt
  have B3 := B2.trans (k3.below B2.size (fun i hi hm => by have := HMF.out i (.inl hm); omega))
  have X3 := Lib.hid (X2.out.kp k3 (fun hm => by have := HMF.out _ (.inl hm); omega))
  have H3 := Lib.hid h3
  have hRSl : RS.length ≤ 4194305 := by
    rw [← hRS]; unfold addS
    split
    · have := Sto.insS_length rc st rs (addRec rc st label x.tree x.refs); omega
    · omega
  have g1 := X3.out.c1
  have g2 := X3.out.c2
  have g3 := X3.out.c3
  have g4 := X3.out.c4
  clear hE hP hRS h3 k3 m3 f3 g5
  go_wp2_with fail
  refine (Sum.sumC rc st (fun b => b < w.heap.size) x.tree _ w3 (HG.out.below B3) (HKK.out.below B3) (fun b h => Nat.lt_of_lt_of_le h B3.size) (by omega)).mono ?_
  rintro e w4 ⟨rfl, b4⟩
  have B4 := B3.trans (b4.mono B3.size)
  have X4 := Lib.hid (X3.out.below b4)
  have H4 := Lib.hid (H3.out.below b4)
  obtain ⟨D, sz, hv, hDl, hD0⟩ := sumV_form rc st x.tree
  rw [hv]
  have HD0 := Lib.hid hD0
  have HDL := Lib.hid hDl
  obtain ⟨c, hc⟩ : ∃ c, Sum.codeOf x.tree = c := ⟨_, rfl⟩
  rw [hc] at HD0 ⊢
  have HC := Lib.hid hc
  obtain ⟨DC, hDC⟩ : ∃ DC, Lib.byteCells D = DC := ⟨_, rfl⟩
  have hDCl : DC.length = 32 := by rw [← hDC, Lib.byteCells_length, hDl]
  have hDCo : ∀ v ∈ DC, v.oneCell' = true := by rw [← hDC]; exact bytes_one D
  have HDC := Lib.hid hDC
  rw [hDC]
  clear hc hv hD0 hDl hDC g1 g2 g3 g4
  by_cases h2 : c = 0
  case neg =>
    have t2 : (c != 0) = true := by simpa using h2
    have hE1 : E = c := by rw [← HE.out]; unfold addE; rw [HC.out, if_neg h2]
    have hP1 : P = ⟨#[]⟩ := by rw [← HP.out]; unfold addP; rw [HE.out, hE1, if_neg h2]
    subst hE1 hP1
    clear h2
    go_wp2_with (refine wpList_store_mid (by rfl) 29 _ _ (by rfl) w4.heap.size 0 DC.toArray (by rfl) (by rfl) ?h4 ?h5 ?h6 ?_; rotate_right; refine Mem.named ?_; intro W hW)
    case h4 => exact (Bx.new w4 _ _).there _ (by rw [show DC.toArray.size = 32 by simpa using hDCl]; rfl)
    case h5 => rw [List.size_toArray, hDCl]; kernel_rfl
    case h6 => exact all_oneCell_toArray hDCo
    go_ret
    exact ⟨rfl, B4.trans ((stash hW).mono B4.size)⟩
  subst h2
  go_wp2_with (first
    | (refine wpList_store_mid (by rfl) 29 _ _ (by rfl) w4.heap.size 0 DC.toArray (by rfl) (by rfl) ?a4 ?a5 ?a6 ?_; rotate_right; refine Mem.named ?_; intro W hW; have r2 := stash_range hW (hDCl.symm); have g5 := (X4.out.below (stash hW)).c5)
    | (refine wpList_load_mid rfl 29 _ (by rfl) w4.heap.size 0 (by rfl) DC _ r2 Tryz.underlying29 rfl (by rw [hDCl]; kernel_rfl) ?_))
  case a4 => exact (Bx.new w4 _ _).there _ (by rw [show DC.toArray.size = 32 by simpa using hDCl]; rfl)
  case a5 => rw [List.size_toArray, hDCl]; kernel_rfl
  case a6 => exact all_oneCell_toArray hDCo
  have bW := stash hW
  have B5 := B4.trans (bW.mono B4.size)
  have X5 := Lib.hid (X4.out.below bW)
  have H5 := Lib.hid (H4.out.below bW)
  have HR5 := Lib.hid r2
  have hM := Make.makeC rc st _ x.refs D label W (HG.out.below B5) (HRR.out.below B5).reads HCAP.out HDL.out
  rw [HDC.out] at hM
  clear hW r2 g5
  obtain ⟨me, hme⟩ : ∃ me, Make.makeErr x.refs label = me := ⟨_, rfl⟩
  have HM := Lib.hid hme
  by_cases h3 : me = 0
  case neg =>
    have hmE : Make.makeE rc st x.refs D label = .tuple #[.string ⟨#[]⟩, .int .i64 me] := by unfold Make.makeE; rw [hme, if_neg h3]
    rw [hmE] at hM
    have t3 : (me != 0) = true := by simpa using h3
    have hE1 : E = me := by rw [← HE.out]; unfold addE; rw [HC.out, if_pos rfl, hme, if_neg h3]
    have hP1 : P = ⟨#[]⟩ := by rw [← HP.out]; unfold addP; rw [HE.out, hE1, if_neg h3]
    subst hE1 hP1
    clear hmE h3 hme
    refine hM.mono ?_
    rintro e w6 ⟨rfl, b6⟩
    clear hM
    go_wp2_with fail
    go_ret
    exact ⟨rfl, B5.trans (b6.mono B5.size)⟩
  subst h3
  have hd0 := HD0.out (by first | rfl | trivial)
  have hmE : Make.makeE rc st x.refs D label = .tuple #[.string (addRec rc st label x.tree x.refs).path, .int .i64 0] := by
    unfold Make.makeE
    rw [hme, if_pos rfl, hd0.1]
    rfl
  rw [hmE] at hM
  have hAM := addE_make (rc := rc) (st := st) (rs := rs) HC.out hme
  have hval := valid_mk (rc := rc) (st := st) HC.out hme
  rw [HE.out, HS.out] at hAM
  have HIC := Lib.hid (show (∀ q ∈ x.refs, q = (addRec rc st label x.tree x.refs).path ∨ Sto.has RS q = true) → (E = 8 ∧ Sto.has RS (addRec rc st label x.tree x.refs).path = true) ∨ (E = 0 ∧ Sp.get Rec.path RS (addRec rc st label x.tree x.refs).path = some (addRec rc st label x.tree x.refs)) from fun h => by
    have h4 := ins_cases (rc := rc) (st := st) HRISE.out (x := addRec rc st label x.tree x.refs) hval
    rw [← hAM.1, ← hAM.2] at h4
    exact h4 h)
  have HBK := Lib.hid (show ∀ r ∈ RS, r.bulk ≤ 4194304 from fun r hr => by
    rw [hAM.2] at hr
    rcases mem_ins hr with h | h
    · exact HGOOD.out.bulk r h
    · rw [h]
      have h1 := makeS_size rc st x.refs (Sum.digOf rc st x.tree) label
      have hl0 : Pre.labE label = 0 := by
        have := hme
        unfold Make.makeErr at this
        split at this
        · assumption
        · rename_i h; exact absurd this h
      have h2 := lab_size hl0
      show (Make.makeS rc st x.refs (Sum.digOf rc st x.tree) label).size + x.tree.bulk + bulks x.refs ≤ 4194304
      omega)
  have HIL := Lib.hid (show ∀ q ∈ x.refs, q ≠ (addRec rc st label x.tree x.refs).path → Sto.has RS q = false → E = 3 from fun q hq hne hno => by
    have h4 := ins_lack (rc := rc) (st := st) HRISE.out (x := addRec rc st label x.tree x.refs) hval (q := q) hq hne
    rw [← hAM.1, ← hAM.2] at h4
    exact h4 hno)
  obtain ⟨PA, hPA⟩ : ∃ PA, (addRec rc st label x.tree x.refs).path = PA := ⟨_, rfl⟩
  have HADD := Lib.hid (show addP rc st rs label x.tree x.refs = if E = 0 then PA else ⟨#[]⟩ by unfold addP; rw [HE.out, hPA])
  rw [HP.out] at HADD
  rw [hPA] at hM HIC HIL
  have HPA := Lib.hid hPA
  have HD1 := Lib.hid hd0
  clear hmE hme hAM hval hPA hd0
  refine hM.mono ?_
  rintro e w6 ⟨rfl, b6⟩
  clear hM
  have B6 := B5.trans (b6.mono B5.size)
  have X6 := Lib.hid (X5.out.below b6)
  have H6 := Lib.hid (H5.out.below b6)
  have R6 : Hid (w6.rangeAt w4.heap.size 0 DC) := Lib.hid (fun j u hj => (b6.cell (p := ⟨w4.heap.size, 0 + j, none⟩) (World.block_lt_of_cell? W _ (HR5.out j u hj))).trans (HR5.out j u hj))
  have g5 := X6.out.c5
  obtain ⟨n, hnn⟩ : ∃ n, x.refs.length = n := ⟨_, rfl⟩
  have hnb : n ≤ 1048576 := by have := length_bulks x.refs; omega
  have HN := Lib.hid hnn
  rw [hnn] at g5
  rw [hnn] at HRR X0 X1 X2 X3 X4 X5 X6
  try rw [hnn]
  clear hnn
  go_wp2_with fail
  go_loopw [16, 73] (fun _ i wr => ∃ k : Nat, k ≤ n ∧ i = .int .i64 k ∧ Hid (∀ j (h : j < x.refs.length), j < k → x.refs[j] = PA ∨ Sto.has RS x.refs[j] = true) ∧ Below w6.heap.size w6 wr) (fun _ i _ => n - (intOf i).toNat)
  case atStart => exact ⟨0, Nat.zero_le _, rfl, Lib.hid (fun j _ hj => absurd hj (Nat.not_lt_zero _)), Below.refl _ _⟩
  case round =>
    obtain ⟨k, hk, rfl, hall, br⟩ := hrel
    have BR := B6.trans (br.mono B6.size)
    by_cases hlt : k < n
    · obtain ⟨rb, ro, rcap, hrv, hcells⟩ := strs_at (HRR.out.below BR) (by rw [HN.out]; omega)
      injection hrv with hrv1 hrv2 hrv3
      subst hrv1
      clear hrv2 hrv3
      have hkl : k < x.refs.length := by rw [HN.out]; exact hlt
      have gk := hcells k hkl
      have hmem : x.refs[k] ∈ x.refs := List.getElem_mem _
      obtain ⟨q, hq⟩ : ∃ q, x.refs[k] = q := ⟨_, rfl⟩
      rw [hq] at gk hmem
      have HQ := Lib.hid hq
      have HMEM := Lib.hid hmem
      have e0 : (0 : Int) ≤ (k : Int) := Int.natCast_nonneg _
      have e1 : (k : Int) < (n : Int) := by omega
      clear hcells hq hmem
      by_cases hqp : q = PA
      · have tt : (q.toList == PA.toList) = true := by rw [Eq.bytes_beq]; exact decide_eq_true hqp
        have HNEW := Lib.hid (show ∀ j (h : j < x.refs.length), j < k + 1 → x.refs[j] = PA ∨ Sto.has RS x.refs[j] = true from fun j h hj => by
          by_cases hjk : j < k
          · exact hall.out j h hjk
          · obtain rfl : j = k := by omega
            exact .inl (by rw [HQ.out]; exact hqp))
        clear hqp
        go_wp2_with fail
        go_roundw
        case rel => exact ⟨k + 1, by omega, by go_num, HNEW, br⟩
        case measure => simp [intOf]; omega
      · have tt : (q.toList == PA.toList) = false := by rw [Eq.bytes_beq]; exact decide_eq_false hqp
        have hHas := hasC M' F' s RS q wr (H6.out.below br) (by omega)
        obtain ⟨B, hBq⟩ : ∃ B, Sto.has RS q = B := ⟨_, rfl⟩
        rw [hBq] at hHas
        have HBQ := Lib.hid hBq
        have HQP := Lib.hid hqp
        clear hBq hqp
        go_wp2_with fail
        refine hHas.mono ?_
        rintro e w7 ⟨rfl, b7⟩
        have br7 := br.trans (b7.mono br.size)
        cases B with
        | true =>
          have HNEW := Lib.hid (show ∀ j (h : j < x.refs.length), j < k + 1 → x.refs[j] = PA ∨ Sto.has RS x.refs[j] = true from fun j h hj => by
            by_cases hjk : j < k
            · exact hall.out j h hjk
            · obtain rfl : j = k := by omega
              exact .inr (by rw [HQ.out]; exact HBQ.out))
          go_wp2_with fail
          go_roundw
          case rel => exact ⟨k + 1, by omega, by go_num, HNEW, br7⟩
          case measure => simp [intOf]; omega
        | false =>
          have hE3 := HIL.out q HMEM.out HQP.out HBQ.out
          subst hE3
          have hP3 : P = ⟨#[]⟩ := HADD.out
          subst hP3
          go_wp2_with fail
          go_ret
          exact ⟨rfl, B6.trans (br7.mono B6.size)⟩
    · obtain rfl : k = n := by omega
      have hIC := HIC.out (fun q hq => by
        obtain ⟨j, hj, rfl⟩ := List.getElem_of_mem hq
        exact hall.out j hj (by rw [← HN.out]; exact hj))
      rcases hIC with ⟨hE8, hhas⟩ | ⟨hE0, hget⟩
      · subst hE8
        have hP3 : P = ⟨#[]⟩ := HADD.out
        subst hP3
        have hHas := hasC M' F' s RS PA wr (H6.out.below br) (by omega)
        rw [hhas] at hHas
        clear hhas hall
        go_wp2_with fail
        refine hHas.mono ?_
        rintro e w7 ⟨rfl, b7⟩
        go_wp2_with fail
        go_ret
        exact ⟨rfl, BR.trans (b7.mono BR.size)⟩
      · subst hE0
        have hP0 : P = PA := HADD.out
        subst hP0
        have HGET := Lib.hid hget
        clear hget hall
        go_wp2_with fail
        refine (getC M' F' s RS P wr (H6.out.below br) (by omega) HBK.out).mono ?_
        rintro e w7 ⟨b7, hm⟩
        rw [HGET.out] at hm
        obtain ⟨cs', rfl, hrec⟩ := hm
        have hl' := hrec.length
        have hoc' := Tab.recOne hrec
        obtain ⟨kv', rv', hcs', hh', hk', hr'⟩ := hrec
        have HK' := Lib.hid hk'
        have HR' := Lib.hid hr'
        obtain ⟨ao3, cap3, rfl, _, _, _⟩ := hk'
        obtain ⟨ao4, cap4, rfl, _, _, _⟩ := hr'
        have HCS' := Lib.hid hcs'
        have BR7 := BR.trans (b7.mono BR.size)
        have X7 := Lib.hid (X6.out.below (br.trans (b7.mono br.size)))
        have hrf : (addRec rc st label x.tree x.refs).refs.length = k := HN.out
        have HRF := Lib.hid hrf
        have HKL := Lib.hid (show (addRec rc st label x.tree x.refs).tree = x.tree from rfl)
        clear hcs' hrf
        go_wp2_with (refine wpList_store_mid (by rfl) 31 _ _ (by rfl) w7.heap.size 0 cs'.toArray (by rfl) (by rfl) ?s4 ?s5 ?s6 ?_; rotate_right; refine Mem.named ?_; intro W9 hW9; have x9 : RB W9 w7.heap.size (addRec rc st label x.tree x.refs) (.slice ao3 x.tree.kids.len cap3) (.slice ao4 x.refs.length cap4) := ⟨by have := stash_bx hW9 (hl'.symm); rw [HCS'.out] at this; exact this, hh'⟩; have k1 := x9.c1; have k2 := x9.c2; have k3 := x9.c3; have k4 := x9.c4; have bW9 := stash hW9; have y9 := X7.out.below bW9; have j1 := y9.c1; have j2 := y9.c2; have j3 := y9.c3; have j4 := y9.c4; rw [show (addRec rc st label x.tree x.refs).tree = x.tree from rfl] at k1 k2 k3; have Y9 := Lib.hid y9; have X9 := Lib.hid x9; clear x9 y9)
        case s4 => exact (Bx.new w7 Ins.zeroRec.cells 31).there _ (by rw [show cs'.toArray.size = 39 by simpa using hl']; rfl)
        case s5 => rw [List.size_toArray, hl']; kernel_rfl
        case s6 => exact all_oneCell_toArray hoc'
        have BR9 := BR7.trans (bW9.mono BR7.size)
        refine (Eq.equalC _ _ x.tree x.tree _ _ W9 (HK'.out.below bW9) (HKK.out.below BR9) (by omega)).mono ?_
        rintro e w10 ⟨rfl, b10⟩
        have BR10 := BR9.trans (b10.mono BR9.size)
        rw [show Eq.eqT x.tree x.tree = true from decide_eq_true rfl]
        have X10 := Lib.hid (X9.out.below b10)
        have Y10 := Lib.hid (Y9.out.below b10)
        have r1 := X10.out.hash
        rw [show (addRec rc st label x.tree x.refs).hash = D from HD1.out.1.symm, HDC.out] at r1
        have r2 : w10.rangeAt w4.heap.size 0 DC := fun j u hj => ((br.trans (b7.mono br.size) |>.trans ((bW9.trans (b10.mono bW9.size)).mono (Nat.le_trans br.size b7.size))).cell (p := ⟨w4.heap.size, 0 + j, none⟩) (World.block_lt_of_cell? w6 _ (R6.out j u hj))).trans (R6.out j u hj)
        have hu := Tryz.underlying29
        have hq : ∀ w, (Op.equalIn 10000 29 (.agg DC.toArray) (.agg DC.toArray)).run Tryz.prog w = .ok true w := fun w => by
          have := eqDig D D HDL.out HDL.out w
          rw [HDC.out] at this
          rw [this]; congr 1; simp
        have k38 := X10.out.c38
        have ts : ((addRec rc st label x.tree x.refs).size == sz) = true := by rw [HD1.out.2]; simp [addRec]
        have k5 := X10.out.c5
        have j5 := Y10.out.c5
        obtain ⟨zz, hzz⟩ : ∃ zz, (addRec rc st label x.tree x.refs).size = zz := ⟨_, rfl⟩
        rw [hzz] at k38 ts
        clear k1 k2 k3 k4 j1 j2 j3 j4 hzz hW9
        go_wp2_with (first
          | (refine wpList_load_midG (by first | rfl | simp [Region.wanted, yielded]) 29 _ (by rfl) w7.heap.size 6 (by rfl) DC _ r1 hu rfl (by rw [hDCl]; kernel_rfl) ?_)
          | (refine wpList_load_midG (by first | rfl | simp [Region.wanted, yielded]) 29 _ (by rfl) w4.heap.size 0 (by rfl) DC _ r2 hu rfl (by rw [hDCl]; kernel_rfl) ?_))
        refine (Texts.texts w10 _ _ x.refs x.refs (HR'.out.below (bW9.trans (b10.mono bW9.size))).reads (by have := (HRR.out.below BR10).reads; exact this)).mono ?_
        rintro e w11 ⟨rfl, sm⟩
        rw [show decide (x.refs = x.refs) = true from decide_eq_true rfl]
        go_wp2_with fail
        go_ret
        exact ⟨rfl, sm.below BR10⟩
end Go.Proofs.YtmmmghpimdfleaaGreatDoor.storeAdds
