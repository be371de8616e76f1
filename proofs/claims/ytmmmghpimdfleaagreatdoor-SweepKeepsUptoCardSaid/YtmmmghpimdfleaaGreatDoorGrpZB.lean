/-
  depotlaw19.stocked: a store that takes these records in.
  depotlaw19.awake: of two paths the one that no root reaches is taken out.
  depotlaw19.whole and all (printed by tools/mkwhole.py).
  What a sweep is given, as an argument of a law.
-/
import Derived.Test.YtmmmghpimdfleaaGreatDoorStock
import Derived.Test.YtmmmghpimdfleaaGreatDoorGrpW
import Derived.Test.YtmmmghpimdfleaaGreatDoorGrpZA
import Derived.Test.YtmmmghpimdfleaaGreatDoorGrpY
import Derived.Test.YtmmmghpimdfleaaGreatDoorWOffs
import Derived.Test.YtmmmghpimdfleaaGreatDoorOpen
set_option linter.unusedVariables false
set_option linter.unusedSimpArgs false
namespace Go.Proofs.YtmmmghpimdfleaaGreatDoor.St
open Go.RowKit Mem Tr
open Go.Proofs.YtmmmghpimdfleaaGreatDoor.Own

set_option maxHeartbeats 4000000 in
set_option maxRecDepth 20000 in
theorem stockedC19 (rc st : Nat → BitVec 32) (v : Value) (l : List Rec) (w : World) (hg : Sum.Gl rc st w) (hr : Op.Recs (fun b => b < w.heap.size) w v l) (hb : Op.bulkR l ≤ 4194304) :
    Calls Tryz.prog 40 #[v] w (PostStock w (stockF rc st [] l)) := by
  obtain ⟨ao, cap, rfl, hlc, hcm, hel⟩ := id hr
  have HR := Lib.hid hr
  have HB := Lib.hid hb
  have HG := Lib.hid hg
  have hll := bulkR_len l
  have hnl : l.length ≤ 4194304 := by omega
  obtain ⟨n, hn⟩ : ∃ n, l.length = n := ⟨_, rfl⟩
  rw [hn] at hnl ⊢
  have HN := Lib.hid hn
  clear hr hb hg hlc hcm hel hll hn
  go_enter Tryz.func40, Tryz.ntmps40
  go_wp2_with fail
  refine (newC w).mono ?_
  rintro e w1 ⟨M, F, s, rfl, h1, hMF, b1⟩
  have H1 := Lib.hid h1
  have HMF := Lib.hid hMF
  clear h1 hMF
  go_wp2_with fail
  go_loopw [5, 11] (fun _ i wr => ∃ k : Nat, k ≤ n ∧ i = .int .i64 k ∧ Hid (∃ M' F', Is M' F' wr s (stockF rc st [] (l.take k)) ∧ ∀ b, M' b ∨ F' b → w.heap.size ≤ b) ∧ Below w.heap.size w wr) (fun _ i _ => n - (intOf i).toNat)
  case atStart => exact ⟨0, Nat.zero_le _, rfl, Lib.hid ⟨M, F, H1.out, HMF.out⟩, b1⟩
  case round =>
    obtain ⟨k, hk, rfl, hst, br⟩ := hrel
    by_cases hlt : k < n
    · have hkl : k < l.length := by rw [HN.out]; exact hlt
      obtain ⟨a2, c2, hv2, _, _, hel⟩ := HR.out.below br
      rcases hel with h0 | ⟨rb, ro, ha, _, hel⟩
      · rw [h0] at hkl; simp at hkl
      injection hv2 with e1 e2 e3
      rw [ha] at e1
      subst e1
      clear e2 e3
      obtain ⟨cs, hrg, hrec⟩ := hel k hkl
      have hcl := hrec.length
      have hoc := Tab.recOne hrec
      have HREC := Lib.hid hrec
      have e0 : (0 : Int) ≤ (k : Int) := Int.natCast_nonneg _
      have e1 : (k : Int) < (n : Int) := by omega
      clear hel hrec ha
      go_wp2_with (first
        | (refine wpList_load_mid rfl 31 _ (by rfl) rb (ro + k * 39) (by rfl) cs _ hrg Tryz.underlying31 rfl (by rw [hcl]; kernel_rfl) ?_)
        | (refine wpList_store_mid (by rfl) 31 _ _ (by rfl) wr.heap.size 0 cs.toArray (by rfl) (by rfl) ?h4 ?h5 ?h6 ?_; rotate_right; refine Mem.named ?_; intro W hW; have hrg2 := stash_range hW hcl.symm)
        | (refine wpList_load_mid rfl 31 _ (by rfl) wr.heap.size 0 (by rfl) cs _ hrg2 Tryz.underlying31 rfl (by rw [hcl]; kernel_rfl) ?_))
      case h4 => first | exact (Bx.new wr Ins.zeroRec.cells 31).there 39 rfl | exact (Bx.new wr Ins.zeroRec.cells 31).there _ (by rw [show cs.toArray.size = 39 by simpa using hcl]; rfl)
      case h5 => first | exact infoEx | (rw [List.size_toArray, hcl]; kernel_rfl)
      case h6 => first | exact hoc | exact all_oneCell_toArray hoc
      obtain ⟨M', F', his, hM'⟩ := hst.out
      have bW := stash hW
      have BW := br.trans (bW.mono br.size)
      have hS := stk rc st (l.take k) (by have := bulkR_take l k; have := HB.out; omega)
      have hlen := hS.len
      rw [List.length_take] at hlen
      have HNEXT := Lib.hid (stockF_take (rc := rc) (st := st) [] l k hkl)
      have HM' := Lib.hid hM'
      have hltM := his.lt
      have hbk : l[k].bulk ≤ 4194304 := by have := bulkR_mem (List.getElem_mem hkl); have := HB.out; omega
      clear hrg hrg2 hW
      refine (insertC rc st M' F' (fun b => b < w.heap.size) s (stockF rc st [] (l.take k)) l[k] cs W (his.below bW) (HG.out.below BW) (HREC.out.below bW) (fun b hb => Nat.lt_of_lt_of_le hb BW.size) hS.good hbk (by omega)).mono ?_
      rintro e w2 ⟨rfl, M2, F2, hi2, kp2, hM2, hF2⟩
      have HI2 := Lib.hid hi2
      have B2 := BW.trans (kp2.below BW.size (fun i hi hm => by have := HM'.out i (.inl hm); omega))
      have HMM := Lib.hid (show ∀ b, M2 b ∨ F2 b → w.heap.size ≤ b from fun b hb => by
        have hz := BW.size
        rcases hb with h | h
        · rcases hM2 b h with h | h
          · exact HM'.out b (.inl h)
          · omega
        · rcases hF2 b h with h | h
          · exact HM'.out b (.inr h)
          · omega)
      clear hi2 his hM' kp2 hM2 hF2 hltM hst
      go_wp2_with fail
      go_roundw
      case rel => exact ⟨k + 1, by omega, by go_num, Lib.hid ⟨M2, F2, by rw [HNEXT.out]; exact HI2.out, HMM.out⟩, B2⟩
      case measure => simp [intOf]; omega
    · obtain rfl : k = n := by omega
      go_wp2_with fail
      go_ret
      obtain ⟨M', F', hi, hM'⟩ := hst.out
      rw [List.take_of_length_le (by rw [HN.out]; exact Nat.le_refl _)] at hi
      exact ⟨M', F', s, rfl, hi, hM', br⟩
end Go.Proofs.YtmmmghpimdfleaaGreatDoor.St

set_option linter.unusedVariables false
namespace Go.Proofs.YtmmmghpimdfleaaGreatDoor.St
open Go.RowKit Mem Tr
open Go.Proofs.YtmmmghpimdfleaaGreatDoor.Own
open Go.Proofs.YtmmmghpimdfleaaGreatDoor.Swp

theorem next_some {best : Bst} {D : List ByteArray} {want : Int} {rs : List Rec} {out : List ByteArray} {fr : Int} {r : Rec} (hf : fr < want) (hp : pick best rs D = some r) : next best D want ⟨rs, out, fr⟩ = some ⟨Sp.cut Rec.path rs r.path, out ++ [r.path], fr + r.size⟩ := by
  unfold next
  rw [if_pos (show (⟨rs, out, fr⟩ : At).freed < want from hf), show pick best (⟨rs, out, fr⟩ : At).rs D = some r from hp]
theorem next_none {best : Bst} {D : List ByteArray} {want : Int} {rs : List Rec} {out : List ByteArray} {fr : Int} (hf : ¬ fr < want) : next best D want ⟨rs, out, fr⟩ = none := by
  unfold next
  rw [if_neg (show ¬ (⟨rs, out, fr⟩ : At).freed < want from hf)]
theorem itN_first (best : Bst) (D : List ByteArray) (want : Int) (s : At) : itN best D want s 1 = next best D want s := rfl
theorem fin_one {best : Bst} {D : List ByteArray} {rs : List Rec} {r : Rec} {f : At} (hp : pick best rs D = some r) (hz : r.size = 120) (h : Fin best D 1 rs f) : f.out = [r.path] ∧ f.freed = 120 ∧ f.rs = Sp.cut Rec.path rs r.path := by
  obtain ⟨n, h1, h2⟩ := h
  have hn := next_some (out := []) (fr := 0) (want := 1) (by decide) hp
  rw [hz, List.nil_append, Int.zero_add] at hn
  have e := itN_one h1 h2 (m := 1) ((itN_first _ _ _ _).trans hn) (next_none (by decide))
  subst e
  exact ⟨rfl, rfl, rfl⟩
def dirT : Tree := ⟨3, false, ⟨#[]⟩, .nil⟩
theorem code_d : Sum.codeOf dirT = 0 := by kernel_rfl
section
variable (rc st : Nat → BitVec 32)
def rd : Rec := addRec rc st ⟨#[98]⟩ dirT []
theorem path_nd : (rp rc st).path ≠ (rd rc st).path := Pok.makeS_ne rc st _ _ _ _ 97 98 (by decide)
theorem get_pd : Sp.get Rec.path [rp rc st] (rd rc st).path = none := by
  unfold Sp.get
  rw [List.find?_cons_of_neg (by simpa using path_nd rc st)]
  rfl
theorem ins_d : Sto.insE rc st [rp rc st] (rd rc st) = 0 := by
  unfold Sto.insE
  rw [if_pos (show Sto.validE rc st (rd rc st) = 0 from valid_add rc st code_d lab_b refs_nil)]
  have hl : Sto.lacks [rp rc st] (rd rc st) = false := by
    unfold Sto.lacks
    rw [List.any_eq_false]
    intro x hx
    have : x ∈ ([] : List ByteArray) := hx
    cases this
  rw [hl, get_pd]
  rfl
def twoD : List Rec := Sp.put Rec.path [rp rc st] (rd rc st)
theorem add_d : addE rc st [rp rc st] ⟨#[98]⟩ dirT [] = 0 ∧ addS rc st [rp rc st] ⟨#[98]⟩ dirT [] = twoD rc st ∧ addP rc st [rp rc st] ⟨#[98]⟩ dirT [] = (rd rc st).path := by
  have hm := make_ok lab_b refs_nil
  have hE : addE rc st [rp rc st] ⟨#[98]⟩ dirT [] = 0 := by
    unfold addE
    rw [if_pos code_d, if_pos hm]
    exact ins_d rc st
  refine ⟨hE, ?_, ?_⟩
  · unfold addS
    rw [if_pos ⟨code_d, hm⟩]
    unfold Sto.insS
    rw [if_pos (show Sto.insE rc st [rp rc st] (addRec rc st ⟨#[98]⟩ dirT []) = 0 from ins_d rc st)]
    rw [show (addRec rc st ⟨#[98]⟩ dirT []) = rd rc st from rfl, get_pd]
    rfl
  · unfold addP
    rw [if_pos hE]; rfl
theorem mem_twoD {r : Rec} : r ∈ twoD rc st ↔ r = rd rc st ∨ r = rp rc st := by
  unfold twoD
  rw [Sp.mem_put]
  simp
theorem twoD_len : (twoD rc st).length = 2 := by unfold twoD; rw [Sp.put_length]; rfl
theorem good_twoD : Sto.Good rc st (twoD rc st) := by
  have h := Sto.good_ins (r := rd rc st) (good_one rc st) (by
    unfold Rec.bulk
    rw [show (rd rc st).path.size = 46 + 1 from makeS_size rc st _ _ _]
    show 46 + 1 + dirT.bulk + bulks [] ≤ _
    decide)
  unfold Sto.insS at h
  rw [if_pos (ins_d rc st), get_pd] at h
  exact h
theorem refs_twoD {r : Rec} (h : r ∈ twoD rc st) : r.refs = [] := by
  rcases (mem_twoD rc st).1 h with rfl | rfl <;> rfl
theorem has_d : Sto.has (twoD rc st) (rd rc st).path = true := Sto.has_of_mem (good_twoD rc st).rise ((mem_twoD rc st).2 (.inl rfl))
theorem has_p : Sto.has (twoD rc st) (rp rc st).path = true := Sto.has_of_mem (good_twoD rc st).rise ((mem_twoD rc st).2 (.inr rfl))
theorem lives_d {x : ByteArray} : Lives (twoD rc st) [(rd rc st).path] x ↔ x = (rd rc st).path := by
  unfold Lives there
  rw [List.filter_cons_of_pos (has_d rc st)]
  constructor
  · intro h
    induction h with
    | root hm => simpa using hm
    | step _ hr hq _ => rw [refs_twoD rc st hr] at hq; cases hq
  · rintro rfl; exact .root (by simp)
theorem dead_d {x : ByteArray} : x ∈ deadL (twoD rc st) [(rd rc st).path] ↔ x = (rp rc st).path := by
  rw [mem_dead, lives_d]
  constructor
  · rintro ⟨⟨r, hr, rfl⟩, hne⟩
    rcases (mem_twoD rc st).1 hr with rfl | rfl
    · exact absurd rfl hne
    · rfl
  · rintro rfl; exact ⟨⟨_, (mem_twoD rc st).2 (.inr rfl), rfl⟩, path_nd rc st⟩
theorem refd_d (rs : List Rec) (p : ByteArray) (h : ∀ r ∈ rs, r.refs = []) : refd rs p = [] := by
  unfold refd
  rw [List.map_eq_nil_iff, List.filter_eq_nil_iff]
  intro r hr
  unfold refers
  rw [h r hr]
  simp
theorem free_p : free (twoD rc st) (rp rc st).path = true := by
  unfold free
  rw [has_p, refd_d _ _ (fun r h => refs_twoD rc st h)]
  rfl
theorem size_p : (rp rc st).size = 120 := by
  show ((Sum.bytesOf (leafT ⟨#[120]⟩)).length : Int) = 120
  have h : (Sum.bytesOf (leafT ⟨#[120]⟩)).length = 120 := by kernel_rfl
  rw [h]; rfl
/-- the sweep of the chapter's question -/
theorem fin_d {best : Bst} {f : At} (h : Fin best (deadL (twoD rc st) [(rd rc st).path]) 1 (twoD rc st) f) : f.out = [(rp rc st).path] ∧ f.freed = 120 ∧ f.rs = Sp.cut Rec.path (twoD rc st) (rp rc st).path := by
  have hp : pick best (twoD rc st) (deadL (twoD rc st) [(rd rc st).path]) = some (rp rc st) := by
    cases hh : pick best (twoD rc st) (deadL (twoD rc st) [(rd rc st).path]) with
    | none =>
      have := pick_none hh (rp rc st).path ((dead_d rc st).2 rfl)
      rw [free_p] at this; cases this
    | some r =>
      obtain ⟨m1, m2, _⟩ := pick_some hh
      have e := (dead_d rc st).1 m2
      rcases (mem_twoD rc st).1 m1 with rfl | rfl
      · exact absurd e.symm (path_nd rc st)
      · rfl
  exact fin_one hp (size_p rc st) h
theorem small_d : Small (twoD rc st) := by
  intro r hr
  rcases (mem_twoD rc st).1 hr with rfl | rfl
  · show 0 ≤ ((Sum.bytesOf dirT).length : Int) ∧ ((Sum.bytesOf dirT).length : Int) ≤ 1073741824
    have h : (Sum.bytesOf dirT).length ≤ 1073741824 := of_decide_eq_true (by kernel_rfl)
    omega
  · rw [size_p]; decide
end

set_option maxRecDepth 20000 in
set_option maxHeartbeats 4000000 in
theorem awakeC19 (rc st : Nat → BitVec 32) (w : World) (hg : Sum.Gl rc st w) : Calls Tryz.prog 41 #[] w fun e w' => e = .returned (.bool true) ∧ Below w.heap.size w w' := by
  have HG := Lib.hid hg
  clear hg
  go_enter Tryz.func41, Tryz.ntmps41
  go_wp2_with fail
  refine (newC w).mono ?_
  rintro e w1 ⟨M, F, s, rfl, h1, hMF, b1⟩
  have H1 := Lib.hid h1
  have HMF := Lib.hid hMF
  clear h1 hMF
  go_wp2_with fail
  refine (addC rc st M F (fun _ => False) (fun _ => False) s [] ⟨#[97]⟩ (leafT ⟨#[120]⟩) [] (.slice none 0 0) (.slice none 0 0) w1 H1.out (HG.out.below b1) ?k1 ?k2 (fun _ h => h.elim) (fun _ h => h.elim) ?k3 ?k4 ?k5 ?k6 (by simp)).mono ?_
  case k1 => exact ⟨none, 0, rfl, Nat.le_refl _, Nat.zero_le _, .inl rfl⟩
  case k2 => exact ⟨none, 0, rfl, Nat.le_refl _, Nat.zero_le _, .inl rfl⟩
  case k3 => intro n cap h; cases h; rfl
  case k4 => exact ⟨List.Pairwise.nil, by simp, by simp, by simp⟩
  case k5 => decide
  case k6 => decide
  obtain ⟨x1, x2, x3⟩ := add_p rc st
  rw [x1, x2, x3]
  rintro e w3 ⟨rfl, M2, F2, h3, k3, m3, f3⟩
  obtain ⟨p, hp⟩ : ∃ p, (rp rc st).path = p := ⟨_, rfl⟩
  rw [hp]
  have HP := Lib.hid hp
  have H3 := Lib.hid h3
  have B3 := b1.trans (k3.below b1.size (fun i hi hm => by have := HMF.out i (.inl hm); omega))
  have HMF2 := Lib.hid (show ∀ b, M2 b ∨ F2 b → w.heap.size ≤ b from fun b hb => by
    have hz := b1.size
    rcases hb with h | h
    · rcases m3 b h with h | h
      · exact HMF.out b (.inl h)
      · omega
    · rcases f3 b h with h | h
      · exact HMF.out b (.inr h)
      · omega)
  clear h3 k3 m3 f3 hp x1 x2 x3
  go_wp2_with fail
  refine (addC rc st M2 F2 (fun _ => False) (fun _ => False) s [rp rc st] ⟨#[98]⟩ dirT [] (.slice none 0 0) (.slice none 0 0) w3 H3.out (HG.out.below B3) ?q1 ?q2 (fun _ h => h.elim) (fun _ h => h.elim) ?q3 (good_one rc st) ?q5 ?q6 (by simp)).mono ?_
  case q1 => exact ⟨none, 0, rfl, Nat.le_refl _, Nat.zero_le _, .inl rfl⟩
  case q2 => exact ⟨none, 0, rfl, Nat.le_refl _, Nat.zero_le _, .inl rfl⟩
  case q3 => intro n cap h; cases h; rfl
  case q5 => decide
  case q6 => decide
  obtain ⟨y1, y2, y3⟩ := add_d rc st
  rw [y1, y2, y3]
  rintro e w6 ⟨rfl, M3, F3, h6, k6, m6, f6⟩
  obtain ⟨q, hq⟩ : ∃ q, (rd rc st).path = q := ⟨_, rfl⟩
  rw [hq]
  have HQ := Lib.hid hq
  have H6 := Lib.hid h6
  have B6 := B3.trans (k6.below B3.size (fun i hi hm => by have := HMF2.out i (.inl hm); omega))
  have HMF3 := Lib.hid (show ∀ b, M3 b → w.heap.size ≤ b from fun b h => by
    have hz := B3.size
    rcases m6 b h with h | h
    · exact HMF2.out b (.inl h)
    · omega)
  clear h6 k6 m6 f6 hq y1 y2 y3
  go_wp2_with fail
  refine calls_named fun w7 hw7 => ?_
  have hst7 := strs_one w6 q
  rw [hw7] at hst7
  obtain ⟨b7, x7⟩ := alloc_fact hw7
  have l7 := x7.lt
  have HST7 := Lib.hid (hst7.sub (S' := fun b => b < w7.heap.size) (fun b h _ => h))
  have B7 := B6.trans (b7.mono B6.size)
  clear hw7 x7 hst7
  have hps : ∀ r ∈ twoD rc st, r.bulk ≤ 4194304 := (good_twoD rc st).bulk
  have hwt : wt0 (twoD rc st) ≤ 2097152 := by
    unfold twoD
    rw [wt0_put]
    show 0 + 0 + 0 ≤ _
    decide
  refine (collectC M3 F3 s (twoD rc st) _ [q] (.slice none 0 0) [] 1 w7 (H6.out.below b7) (by rw [twoD_len]; decide) (good_twoD rc st).rise hps (small_d rc st) HST7.out (by simp) hwt (good_twoD rc st).closed (Uses.nil _ _) (by simp) (fun x h => by cases h)).mono ?_
  rintro e w8 ⟨f, v, M4, hfin, rfl, hrow, his, kp, hsub⟩
  rw [← HQ.out] at hfin
  obtain ⟨f1, f2, f3⟩ := fin_d rc st hfin
  rw [f1, HP.out] at hrow
  rw [f3, HP.out] at his
  rw [f2]
  have hrow : w8.ownsRow w7.heap.size 9 1 v 1 [.string p] := hrow
  obtain ⟨g, cap, rfl⟩ := ownsRow_succ (k := 0) hrow
  have c0 : w8.cell? ⟨g, 0, none⟩ = some (.string p) := by
    have := hrow.cells (g := g) rfl 0 (.string p) rfl
    rwa [Addr.add_lit] at this
  have B8 := B7.trans (kp.below B7.size (fun i hi hm => by have := HMF3.out i hm; omega))
  have t1 : (p.toList == p.toList) = true := by simp
  have hcl : (Sp.cut Rec.path (twoD rc st) p).length ≤ 1073741824 := Nat.le_trans (List.length_filter_le _ _) (by rw [twoD_len]; decide)
  have HH1 := hasC M4 F3 s (Sp.cut Rec.path (twoD rc st) p) p w8 his hcl
  have hf1 : Sto.has (Sp.cut Rec.path (twoD rc st) p) p = false := by
    cases hh : Sto.has (Sp.cut Rec.path (twoD rc st) p) p with
    | false => rfl
    | true => exact absurd rfl (cut_get.1 hh).2
  rw [hf1] at HH1
  have HH2 := fun W hb => hasC M4 F3 s (Sp.cut Rec.path (twoD rc st) p) q W (his.below hb) hcl
  have hf2 : Sto.has (Sp.cut Rec.path (twoD rc st) p) q = true := cut_get.2 ⟨by rw [← HQ.out]; exact has_d rc st, by rw [← HQ.out, ← HP.out]; exact (path_nd rc st).symm⟩
  rw [hf2] at HH2
  have H1' := Lib.hid HH1
  have H2' := Lib.hid HH2
  clear hfin f1 f2 f3 hrow his kp hsub hps hwt HH1 HH2 hf1 hf2 hcl
  go_wp2_with fail
  refine H1'.out.mono ?_
  rintro e w9 ⟨rfl, b9⟩
  go_wp2_with fail
  refine (H2'.out w9 b9).mono ?_
  rintro e w10 ⟨rfl, b10⟩
  go_wp2_with fail
  go_ret
  exact ⟨rfl, B8.trans ((b9.trans (b10.mono b9.size)).mono B8.size)⟩
end Go.Proofs.YtmmmghpimdfleaaGreatDoor.St

set_option linter.unusedVariables false
namespace Go.Proofs.YtmmmghpimdfleaaGreatDoor.St
open Go.RowKit Mem Tr
open Go.Proofs.YtmmmghpimdfleaaGreatDoor.Own

set_option maxHeartbeats 8000000 in
set_option maxRecDepth 20000 in
theorem wholeC (M F S : Nat → Prop) (s : Nat) (rs : List Rec) (v : Value) (l : List Rec) (w : World) (h : Is M F w s rs) (hn : rs.length ≤ 1048576) (hbk : ∀ r ∈ rs, r.bulk ≤ 4194304) (hr : Op.Recs S w v l) (hl : rs.length = l.length) (hall : ∀ r ∈ l, Sp.get Rec.path rs r.path = some r) :
    Calls Tryz.prog 48 #[.pointer (some ⟨s, 0, none⟩), v] w fun e w' => e = .returned (.bool true) ∧ Below w.heap.size w w' := by
  have H := Lib.hid h
  have HR := Lib.hid hr
  have HBK := Lib.hid hbk
  have HALL := Lib.hid hall
  have HNR := Lib.hid hn
  obtain ⟨n, hnn⟩ : ∃ n, l.length = n := ⟨_, rfl⟩
  have HN := Lib.hid hnn
  have hL := lenC M F s rs w h
  rw [hl, hnn] at hL
  have hnl : n ≤ 1048576 := by omega
  obtain ⟨ao, cap, rfl, _, _, _⟩ := hr
  rw [hnn]
  have tn : ((n : Int) == (n : Int)) = true := by simp
  clear h hbk hall hnn hl hn
  go_enter Tryz.func48, Tryz.ntmps48
  go_wp2_with fail
  refine hL.mono ?_
  rintro e w1 ⟨rfl, hw1⟩
  obtain rfl := hw1.symm
  clear hL
  go_wp2_with fail
  clear tn
  go_loopw [6, 7, 8, 18] (fun _ _ _ i wr => ∃ k : Nat, k ≤ n ∧ i = .int .i64 k ∧ Below w.heap.size w wr) (fun _ _ _ i _ => n - (intOf i).toNat)
  case atStart => exact ⟨0, Nat.zero_le _, rfl, Below.refl _ _⟩
  case round =>
    obtain ⟨k, hk, rfl, br⟩ := hrel
    by_cases hlt : k < n
    · have hkl : k < l.length := by rw [HN.out]; exact hlt
      obtain ⟨a2, c2, hv2, _, _, hel⟩ := HR.out.below br
      rcases hel with h0 | ⟨rb, ro, ha, _, hel⟩
      · rw [h0] at hkl; simp at hkl
      injection hv2 with e1 e2 e3
      rw [ha] at e1
      subst e1
      clear e2 e3
      obtain ⟨cs, hrg, hrec⟩ := hel k hkl
      have hget := HALL.out l[k] (List.getElem_mem _)
      have hrb := HBK.out _ (Sp.get_some hget).1
      obtain ⟨r, hrk⟩ : ∃ r, l[k] = r := ⟨_, rfl⟩
      rw [hrk] at hrec hget hrb
      have hcl := hrec.length
      have hoc := Tab.recOne hrec
      have HREC := Lib.hid hrec
      have HGET := Lib.hid hget
      have HRB := Lib.hid hrb
      have h0 : cs[0]'(by omega) = .string r.path := by
        obtain ⟨kv, rv, h1, h2, _⟩ := hrec
        exact (recFields h1.symm hcl h2).1
      have H0 := Lib.hid h0
      have e0 : (0 : Int) ≤ (k : Int) := Int.natCast_nonneg _
      have e1 : (k : Int) < (n : Int) := by omega
      clear hel hrec ha h0 hget hrb hrk
      go_wp2_with (first
        | (refine wpList_load_mid rfl 31 _ (by rfl) rb (ro + k * 39) (by rfl) cs _ hrg Tryz.underlying31 rfl (by rw [hcl]; kernel_rfl) ?_)
        | (refine wpList_store_mid (by rfl) 31 _ _ (by rfl) wr.heap.size 0 cs.toArray (by rfl) (by rfl) ?h4 ?h5 ?h6 ?_; rotate_right; refine Mem.named ?_; intro w4 hw4))
      case h4 => first | exact (Bx.new wr Ins.zeroRec.cells 31).there 39 rfl | exact (Bx.new wr Ins.zeroRec.cells 31).there _ (by rw [show cs.toArray.size = 39 by simpa using hcl]; rfl)
      case h5 => first | exact infoEx | (rw [List.size_toArray, hcl]; kernel_rfl)
      case h6 => first | exact hoc | exact all_oneCell_toArray hoc
      have x4 : Bx w4 wr.heap.size cs.toArray 31 := stash_bx hw4 hcl.symm
      have b4 := stash hw4
      have br4 := br.trans (b4.mono br.size)
      have X4 := Lib.hid x4
      have lx := x4.lt
      have HREC4 := Lib.hid ((HREC.out.below b4))
      obtain ⟨kb, hkb⟩ : ∃ kb, wr.heap.size = kb := ⟨_, rfl⟩
      rw [hkb] at X4 lx
      rw [hkb]
      clear hw4 x4 hrg
      have hS3 : ∀ w', Below w4.heap.size w4 w' → w'.cell? ⟨kb, 0, none⟩ = some (.string r.path) := fun w' hb => by
        have := (X4.out.belowB hb lx).cell 0
        rw [this, List.getElem?_toArray, List.getElem?_eq_getElem (by omega), H0.out]
      have hS0 := hS3 w4.drew (Below.refl _ w4).drew
      have hget := fun w' (hb : Below w4.heap.size w4 w') => storeOffers.getSome w' (H.out.below (br4.trans (hb.mono br4.size))) (by have := HNR.out; omega) HBK.out HGET.out
      clear hkb
      go_wp2_with fail
      refine wp_region_held_drew (S := fun w' => w'.cell? ⟨kb, 0, none⟩ = some (.string r.path)) (by kernel_rfl) hS0 (fun hHeld => ?_)
      refine wpAnyH_take (i := 0) (v := ?_) rfl (by kernel_rfl) (by kernel_rfl) (by kernel_rfl) (fun _ _ _ h => h) (Or.inl ⟨by rfl, ?_⟩) (by assumption) ?_
      rotate_left
      · (intro w hSw; go_simp; try with_reducible rfl)
      simp only [Act.put, List.setIfInBounds_toArray, List.set_cons_zero, List.set_cons_succ]
      refine wpAnyH_take (i := 1) (v := ?_) rfl (by kernel_rfl) (by kernel_rfl) (by kernel_rfl) (fun _ _ _ h => h) (Or.inl ⟨by rfl, ?_⟩) (by assumption) ?_
      rotate_left
      · (intro w hSw; go_simp; try with_reducible rfl)
      simp only [Act.put, List.setIfInBounds_toArray, List.set_cons_zero, List.set_cons_succ]
      refine wpAnyH_take (i := 2) (v := ?_) rfl (by kernel_rfl) (by kernel_rfl) (by kernel_rfl) (fun _ _ _ h => h) (Or.inl ⟨by rfl, ?_⟩) (by assumption) ?_
      rotate_left
      · (intro w hSw; go_simp; try with_reducible rfl)
      simp only [Act.put, List.setIfInBounds_toArray, List.set_cons_zero, List.set_cons_succ]
      refine wpAnyH_take (i := 3) (v := ?_) rfl (by kernel_rfl) (by kernel_rfl) (by kernel_rfl) (fun _ _ _ h => h) (Or.inl ⟨by rfl, ?_⟩) (by assumption) ?_
      rotate_left
      · (intro w hSw; go_simp; try with_reducible rfl)
      simp only [Act.put, List.setIfInBounds_toArray, List.set_cons_zero, List.set_cons_succ]
      refine wpAnyH_take (i := 4) (v := ?_) rfl (by kernel_rfl) (by kernel_rfl) (by kernel_rfl) (fun _ _ _ h => h) (Or.inl ⟨by rfl, ?_⟩) (by assumption) ?_
      rotate_left
      · (intro w hSw; go_simp; try with_reducible rfl)
      simp only [Act.put, List.setIfInBounds_toArray, List.set_cons_zero, List.set_cons_succ]
      refine wpAnyH_ready (rs := [5, 9]) (by kernel_rfl) (by simp) ?_
      refine AllReadyH.cons rfl (fun K hK => ?armA) (AllReadyH.cons rfl (fun K hK => ?armB) AllReadyH.nil)
      case' armA =>
        go_simp
        refine (hget w4.drew (Below.refl _ w4).drew).mono ?_
        rintro e wg3 ⟨oc, hol, hoo, rfl, b3, hrec⟩
        have b3' : Below w4.heap.size w4 wg3 := Copy.below_undrew b3
        refine hK.out _ _ (hS3 wg3 b3') (fun hHeld => ?_)
        clear hK K
        refine wpAnyH_take (i := 6) (v := ?_) rfl (by kernel_rfl) (by kernel_rfl) (by kernel_rfl) (fun _ _ _ h => h) (Or.inl ⟨by rfl, ?_⟩) (by assumption) ?_
        rotate_left
        · (intro w hSw; go_simp; try with_reducible rfl)
        simp only [Act.put, List.setIfInBounds_toArray, List.set_cons_zero, List.set_cons_succ]
        refine wpAnyH_take (i := 7) (v := ?_) rfl (by kernel_rfl) (by kernel_rfl) (by kernel_rfl) (fun _ _ _ h => h) (Or.inl ⟨by rfl, ?_⟩) (by assumption) ?_
        rotate_left
        · (intro w hSw; go_simp; try with_reducible rfl)
        simp only [Act.put, List.setIfInBounds_toArray, List.set_cons_zero, List.set_cons_succ]
        refine wpAnyH_take (i := 8) (v := ?_) rfl (by kernel_rfl) (by kernel_rfl) (by kernel_rfl) (fun _ _ _ h => h) (Or.inl ⟨by rfl, ?_⟩) (by assumption) ?_
        rotate_left
        · (intro w hSw; go_simp; try with_reducible rfl)
        simp only [Act.put, List.setIfInBounds_toArray, List.set_cons_zero, List.set_cons_succ]
        refine wpAnyH_ready (rs := [9]) (by kernel_rfl) (by simp) ?_
        refine AllReadyH.cons rfl (fun K hK => ?_) AllReadyH.nil
        go_simp
        change K _ (wg3.alloc (.cells Ins.zeroRec.cells 31))
        obtain ⟨WN, hWN⟩ : ∃ W, wg3.alloc (.cells Ins.zeroRec.cells 31) = W := ⟨_, rfl⟩
        obtain ⟨bN3, xN⟩ := alloc_fact hWN
        have bN : Below w4.heap.size w4 WN := b3'.trans (bN3.mono b3'.size)
        rw [hWN]
        refine hK.out _ _ (hS3 WN bN) (fun hHeld => ?_)
        have hrecN := hrec.below bN3
        have nbl : w4.heap.size ≤ wg3.heap.size := b3'.size
        have hN : RecAt (fun b => b ≠ wg3.heap.size) WN oc r := hrecN.sub (fun b _ h => by have := h.2; omega)
        obtain ⟨nb, hnb2⟩ : ∃ nb, wg3.heap.size = nb := ⟨_, rfl⟩
        rw [hnb2] at xN nbl hN ⊢
        clear hK K hnb2 hWN bN3 hrec b3' b3
      case' armB =>
        go_simp
        change K _ (w4.alloc (.cells Ins.zeroRec.cells 31)).drew
        obtain ⟨wg4, hwg4⟩ : ∃ W, (w4.alloc (.cells Ins.zeroRec.cells 31)).drew = W := ⟨_, rfl⟩
        have x4 : Bx wg4 w4.heap.size Ins.zeroRec.cells 31 := by rw [← hwg4]; exact Bx.new w4 Ins.zeroRec.cells 31
        have b4 : Below w4.heap.size w4 wg4 := by rw [← hwg4]; exact ((Below.refl _ w4).alloc (Nat.le_refl _) _).drew
        rw [hwg4]
        refine hK.out _ _ (hS3 wg4 b4) (fun hHeld => ?_)
        obtain ⟨nb, hnb2⟩ : ∃ nb, w4.heap.size = nb := ⟨_, rfl⟩
        rw [hnb2]
        clear hK K hwg4
        refine wpAnyH_ready (rs := [5]) (by kernel_rfl) (by simp) ?_
        refine AllReadyH.cons rfl (fun K hK => ?_) AllReadyH.nil
        go_simp
        refine (hget wg4 b4).mono ?_
        rintro e WN ⟨oc, hol, hoo, rfl, b5, hrecN⟩
        have bN : Below w4.heap.size w4 WN := b4.trans (b5.mono b4.size)
        refine hK.out _ _ (hS3 WN bN) (fun hHeld => ?_)
        clear hK K
        refine wpAnyH_take (i := 6) (v := ?_) rfl (by kernel_rfl) (by kernel_rfl) (by kernel_rfl) (fun _ _ _ h => h) (Or.inl ⟨by rfl, ?_⟩) (by assumption) ?_
        rotate_left
        · (intro w hSw; go_simp; try with_reducible rfl)
        simp only [Act.put, List.setIfInBounds_toArray, List.set_cons_zero, List.set_cons_succ]
        refine wpAnyH_take (i := 7) (v := ?_) rfl (by kernel_rfl) (by kernel_rfl) (by kernel_rfl) (fun _ _ _ h => h) (Or.inl ⟨by rfl, ?_⟩) (by assumption) ?_
        rotate_left
        · (intro w hSw; go_simp; try with_reducible rfl)
        simp only [Act.put, List.setIfInBounds_toArray, List.set_cons_zero, List.set_cons_succ]
        refine wpAnyH_take (i := 8) (v := ?_) rfl (by kernel_rfl) (by kernel_rfl) (by kernel_rfl) (fun _ _ _ h => h) (Or.inl ⟨by rfl, ?_⟩) (by assumption) ?_
        rotate_left
        · (intro w hSw; go_simp; try with_reducible rfl)
        simp only [Act.put, List.setIfInBounds_toArray, List.set_cons_zero, List.set_cons_succ]
        have xN := x4.below b5
        have nbl : w4.heap.size ≤ nb := by omega
        have l4 := x4.lt
        have hN : RecAt (fun b => b ≠ w4.heap.size) WN oc r := hrecN.sub (fun b _ h => by have := h.1; omega)
        rw [hnb2] at xN hN
        clear hnb2 x4 b4 b5 l4
      all_goals
        refine wpAnyH_ready (rs := [10]) (by kernel_rfl) (by simp) ?_
        refine AllReadyH.cons rfl (fun K hK => ?_) AllReadyH.nil
        rw [if_pos (by rfl)]
        refine wp_store_mid 31 _ _ (by rfl) nb 0 oc.toArray (by rfl) (by rfl) ?_ ?_ ?_ ?_
        · exact xN.there oc.toArray.size (by rw [show oc.toArray.size = 39 by simpa using hol]; rfl)
        · rw [List.size_toArray, hol]; kernel_rfl
        · exact all_oneCell_toArray hoo
        refine Mem.named ?_
        intro WS hWS
        have hW2 : WN.setCells nb 0 oc = WS := hWS
        have bW : Below w4.heap.size w4 WS := by rw [← hW2]; exact Tab.below_setCells nbl _ _ bN (Nat.le_refl _)
        have rW : WS.rangeAt nb 0 oc := by rw [← hW2]; exact World.rangeAt_setCells_same _ _ _ _ (xN.there _ (by rw [hol]; rfl))
        have kW : Kp (fun b => b = nb) WN WS := by rw [← hW2]; exact kp_setCells (M := fun b => b = nb) (fun _ => rfl) _ _ (Kp.refl _ WN)
        have hWR : RecAt (fun b => b ≠ nb) WS oc r := hN.ag (Ag.of_kp kW (fun q _ hq e => hq e))
        refine hK.out _ _ (hS3 WS bW) (fun hHeld => ?_)
        clear hK K hWS hW2
        refine wpAnyH_take (i := 11) (v := ?_) rfl (by kernel_rfl) (by kernel_rfl) (by kernel_rfl) (fun _ _ _ h => h) (Or.inl ⟨by rfl, ?_⟩) (by assumption) ?_
        rotate_left
        · (intro w hSw; go_simp; try with_reducible rfl)
        simp only [Act.put, List.setIfInBounds_toArray, List.set_cons_zero, List.set_cons_succ]
        refine wpAnyH_done (by kernel_rfl) ?_ _
        clear hHeld
        have br5 := br4.trans (bW.mono br4.size)
        have r5 : WS.rangeAt kb 0 cs := by have := (X4.out.belowB bW lx).range; simpa using this
        have hu := Tryz.underlying31
        have HWR := Lib.hid hWR
        have HREC5 := Lib.hid (HREC4.out.below bW)
        clear hS0 hS3 hget hWR hrecN hN xN kW
        go_wp2_with (first
          | (refine wpList_load_midG (by first | rfl | simp [Region.wanted, yielded]) 31 _ (by rfl) nb 0 (by rfl) oc _ rW hu rfl (by rw [hol]; kernel_rfl) ?_)
          | (refine wpList_load_midG (by first | rfl | simp [Region.wanted, yielded]) 31 _ (by rfl) kb 0 (by rfl) cs _ r5 hu rfl (by rw [hcl]; kernel_rfl) ?_))
        refine (rsameC _ _ r r oc cs WS HWR.out HREC5.out HRB.out).mono ?_
        rintro e w6 ⟨rfl, b6⟩
        rw [show eqR r r = true from decide_eq_true rfl]
        have br6 := br5.trans (b6.mono br5.size)
        clear rW r5
        go_wp2_with fail
        go_roundw
        case rel => exact ⟨k + 1, by omega, by go_num, br6⟩
        case measure => simp [intOf]; omega
    · have hkn : n = k := by omega
      subst hkn
      go_wp2_with fail
      go_ret
      exact ⟨rfl, br⟩

theorem fold_zip_aux : ∀ (l : List Value) (k : Nat) (a : Array Value), k + l.length ≤ a.size → ∀ i : Nat, (List.foldl (fun cs x => cs.setIfInBounds x.2 x.1) a (l.zipIdx k))[i]? = if k ≤ i ∧ i < k + l.length then l[i - k]? else a[i]?
  | [], k, a, _, i => by rw [if_neg (by simp)]; rfl
  | x :: l, k, a, h, i => by
    rw [List.length_cons] at h
    rw [List.zipIdx_cons, List.foldl_cons, fold_zip_aux l (k + 1) _ (by rw [Array.size_setIfInBounds]; omega) i, List.length_cons]
    by_cases h1 : i = k
    · subst h1
      rw [if_neg (by omega), if_pos (by omega), Nat.sub_self, Array.getElem?_setIfInBounds_self_of_lt (by omega)]; rfl
    · by_cases h2 : k + 1 ≤ i ∧ i < k + 1 + l.length
      · rw [if_pos h2, if_pos (by omega), show i - k = (i - (k + 1)) + 1 by omega, List.getElem?_cons_succ]
      · rw [if_neg h2, if_neg (by omega), Array.getElem?_setIfInBounds_ne (by omega)]
theorem fold_zip (l : List Value) (a : Array Value) (h : a.size = l.length) : List.foldl (fun cs x => cs.setIfInBounds x.2 x.1) a l.zipIdx = l.toArray := by
  apply Array.ext_getElem?
  intro i
  rw [fold_zip_aux l 0 a (by omega) i]
  by_cases hi : i < l.length
  · rw [if_pos (by omega)]; simp
  · rw [if_neg (by omega), Array.getElem?_eq_none (by omega), Array.getElem?_eq_none (by simp; omega)]
/-- the records of a row of blocks of 39 -/
structure Rows39 (S : Nat → Prop) (w : World) (xs : List Value) (l : List Rec) : Prop where
  len : xs.length = 39 * l.length
  at' : ∀ j (h : j < l.length), RecAt S w ((xs.drop (39 * j)).take 39) l[j]
theorem Rows39.nil (S : Nat → Prop) (w : World) : Rows39 S w [] [] := ⟨rfl, fun j h => absurd h (by simp)⟩
theorem Rows39.ag {S : Nat → Prop} {w w' : World} {xs : List Value} {l : List Rec} (h : Rows39 S w xs l) (ha : Ag S w w') : Rows39 S w' xs l := ⟨h.len, fun j hj => (h.at' j hj).ag ha⟩
theorem Rows39.mono {S S' : Nat → Prop} {w : World} {xs : List Value} {l : List Rec} (h : Rows39 S w xs l) (hs : ∀ b, S b → S' b) : Rows39 S' w xs l := ⟨h.len, fun j hj => (h.at' j hj).sub fun _ _ h => hs _ h⟩
theorem Rows39.snoc {S : Nat → Prop} {w : World} {xs cs : List Value} {l : List Rec} {r : Rec} (h : Rows39 S w xs l) (hr : RecAt S w cs r) : Rows39 S w (xs ++ cs) (l ++ [r]) := by
  have hl := hr.length
  refine ⟨by rw [List.length_append, List.length_append, h.len, hl, List.length_singleton]; omega, fun j hj => ?_⟩
  rw [List.length_append, List.length_singleton] at hj
  by_cases e : j < l.length
  · rw [List.getElem_append_left e, List.drop_append_of_le_length (by rw [h.len]; omega), List.take_append_of_le_length (by rw [List.length_drop, h.len]; omega)]
    exact h.at' j e
  · obtain rfl : j = l.length := by omega
    rw [List.getElem_append_right (by omega), ← h.len, List.drop_left, List.take_of_length_le (by omega)]
    simpa using hr
theorem recs_of {B : Nat} {S : Nat → Prop} {w : World} {v : Value} {xs : List Value} {l : List Rec} (h : w.ownsRow B 31 39 v l.length xs) (hx : Rows39 S w xs l) (hS : ∀ b, v.ownBlock = some b → S b) : Op.Recs S w v l := by
  rcases h.2 with ⟨hv, h0⟩ | ⟨g, cap, cur, hv, hb, hg, hn, hc, hsz, htk⟩
  · obtain rfl := List.eq_nil_of_length_eq_zero h0
    rw [hv]
    exact ⟨none, 0, rfl, Nat.le_refl _, by unfold maxLen; omega, .inl rfl⟩
  · refine ⟨some ⟨g, 0, none⟩, cap, hv, hn, hc, .inr ⟨g, 0, rfl, hS g (by rw [hv]; rfl), fun j hj => ⟨(xs.drop (39 * j)).take 39, fun i u hi => ?_, hx.at' j hj⟩⟩⟩
    rw [List.getElem?_take] at hi
    by_cases e : i < 39
    · rw [if_pos e, List.getElem?_drop] at hi
      have h1 := World.ownsRow.cells h (g := g) (by rw [hv]; rfl) (39 * j + i) u hi
      rw [Nat.zero_add, Nat.mul_comm j 39]
      unfold Addr.add at h1
      split at h1
      · rename_i h0
        rw [h0]
        exact h1
      · simpa using h1
    · rw [if_neg e] at hi; cases hi

set_option maxHeartbeats 8000000 in
set_option maxRecDepth 20000 in
theorem allC (M F : Nat → Prop) (s : Nat) (rs : List Rec) (w : World) (h : Is M F w s rs) (hn : rs.length ≤ 1048576) (hbk : ∀ r ∈ rs, r.bulk ≤ 4194304) :
    Calls Tryz.prog 49 #[.pointer (some ⟨s, 0, none⟩)] w fun e w' => ∃ v, e = .returned v ∧ Op.Recs (fun b => w.heap.size ≤ b ∧ b < w'.heap.size) w' v rs ∧ Below w.heap.size w w' := by
  have H := Lib.hid h
  have HBK := Lib.hid hbk
  have HRISE := Lib.hid h.rise
  have hP := pathsC M F s rs w h (by omega)
  have hml : (rs.map fun r => Value.string r.path) = (rs.map Rec.path).map Value.string := by rw [List.map_map]; rfl
  obtain ⟨ps, hps⟩ : ∃ ps, rs.map Rec.path = ps := ⟨_, rfl⟩
  have HPT := Lib.hid hps
  have hpl : ps.length = rs.length := by rw [← hps, List.length_map]
  have HPL := Lib.hid hpl
  rw [hml, hps, ← hpl] at hP
  obtain ⟨n, hnn⟩ : ∃ n, rs.length = n := ⟨_, rfl⟩
  have HN := Lib.hid hnn
  have hnl : n ≤ 1048576 := by omega
  clear h hbk hml hps hpl hnn hn
  go_enter Tryz.func49, Tryz.ntmps49
  go_wp2_with fail
  refine hP.mono ?_
  rintro e w1 ⟨v1, rfl, ho1, b1⟩
  have HS1 := Lib.hid (show Strs (fun b => w.heap.size ≤ b) w1 v1 ps from Strs.of_own ho1)
  obtain ⟨a1, c1, rfl⟩ := Tab.own_len ho1
  rw [HPL.out, HN.out] at HS1 ⊢
  clear hP ho1
  go_wp2_with fail
  go_loopw [3, 5, 6, 7, 13] (fun x3 _ _ _ i wr => ∃ k : Nat, ∃ ao c, k ≤ n ∧ i = .int .i64 k ∧ x3 = .slice ao k c ∧ Hid (∃ xs, wr.ownsRow w1.heap.size 31 39 (.slice ao k c) k xs ∧ Rows39 (fun b => w1.heap.size ≤ b ∧ b < wr.heap.size ∧ (Value.slice ao k c).ownBlock ≠ some b) wr xs (rs.take k)) ∧ Below w1.heap.size w1 wr) (fun _ _ _ _ i _ => n - (intOf i).toNat)
  case atStart => exact ⟨0, none, 0, Nat.zero_le _, rfl, rfl, Lib.hid ⟨[], World.ownsRow_nil _ _ _ _, by rw [List.take_zero]; exact Rows39.nil _ _⟩, Below.refl _ _⟩
  case round =>
    obtain ⟨k, ao3, c3, hk, rfl, rfl, HW, br⟩ := hrel
    have B := b1.trans (br.mono b1.size)
    by_cases hlt : k < n
    · obtain ⟨rb, ro, rcap, hrv, hcells⟩ := strs_at (HS1.out.below br) (by rw [HPL.out, HN.out]; omega)
      injection hrv with hrv1 hrv2 hrv3
      subst hrv1
      clear hrv2 hrv3
      have hkl : k < ps.length := by rw [HPL.out, HN.out]; exact hlt
      have gk := hcells k hkl
      have hkr : k < rs.length := by rw [HN.out]; exact hlt
      have hpk : ps[k] = rs[k].path := by
        have : ps[k]? = some rs[k].path := by rw [← HPT.out, List.getElem?_map, List.getElem?_eq_getElem hkr]; rfl
        rw [List.getElem?_eq_getElem hkl] at this
        exact Option.some.inj this
      have hget : Sp.get Rec.path rs ps[k] = some rs[k] := by rw [hpk]; exact Sp.get_of_mem HRISE.out (List.getElem_mem _)
      have htk : rs.take (k + 1) = rs.take k ++ [rs[k]] := List.take_succ_eq_append_getElem hkr
      obtain ⟨q, hq⟩ : ∃ q, ps[k] = q := ⟨_, rfl⟩
      obtain ⟨r, hr⟩ : ∃ r, rs[k] = r := ⟨_, rfl⟩
      rw [hq] at gk hget
      rw [hr] at hget htk
      have HGET := Lib.hid hget
      have HTK := Lib.hid htk
      have e0 : (0 : Int) ≤ (k : Int) := Int.natCast_nonneg _
      have e1 : (k : Int) < (n : Int) := by omega
      clear hcells hq hr hget hpk htk
      go_wp2_with fail
      refine (storeOffers.getSome wr (H.out.below B) (by rw [HN.out]; omega) HBK.out HGET.out).mono ?_
      rintro e w7 ⟨oc, hol, hoc, rfl, b7, hrec⟩
      have HREC := Lib.hid hrec
      have br7 := br.trans (b7.mono br.size)
      clear hrec
      obtain ⟨xs, hown, hrows⟩ := HW.out
      have HXS := Lib.hid hrows
      obtain ⟨i0, hi, hz0, hz1, hz2⟩ := info_parts Ins.infoRec
      have HSTEP := Lib.hid (show ∀ W, (w7.alloc (.cells Ins.zeroRec.cells 31)).setCells w7.heap.size 0 oc = W → W.rangeAt w7.heap.size 0 oc ∧ Below w7.heap.size w7 W ∧ W.ownsRow w1.heap.size 31 39 (.slice ao3 k c3) k xs from fun W hW => ⟨stash_range hW hol.symm, stash hW, Copy.own_below (Copy.own_below hown b7) (stash hW)⟩)
      have hu := Tryz.underlying31
      have hsz7 := br7.size
      have HOWN := Lib.hid hown
      clear HW hown hrows
      go_wp2_with (first
        | (refine wpList_store_mid (by rfl) 31 _ _ (by rfl) w7.heap.size 0 oc.toArray (by rfl) (by rfl) ?s4 ?s5 ?s6 ?_; rotate_right; refine Mem.named ?_; intro W8 hW8; obtain ⟨r8, b8, how8⟩ := HSTEP.out W8 hW8; have hsz8 := b8.size; clear hW8)
        | (refine wpList_load_mid rfl 31 _ (by rfl) w7.heap.size 0 (by rfl) oc _ r8 hu rfl (by rw [hol]; kernel_rfl) ?_)
        | (at_builtin; rw [fold_zip oc _ (by rw [hol]; rfl)]; go_loud (refine wpList_append_own_at _ rfl _ _ 22 rfl w1.heap.size 31 i0 Ins.zeroRec 39 136 Tryz.underlying22 hi hz0 hz1 hz2 rfl (by decide) _ _ _ rfl (how8.alloc _) ⟨W8.heap.size, 0, none⟩ 1 1 oc rfl (by rw [hol]) (by have := World.news_of_block (cs := oc.toArray) (t := 31) (fr := (0, 0)) (heap_alloc_new W8 _); simpa using this) hoc (by unfold maxLen; omega) (by omega) (by simp; omega) ?_; intro v' w9 hown9 hgrow hnil hat; obtain ⟨g', cap', rfl⟩ := ownsRow_succ hown9; have HN9 := Lib.hid hown9; have HG9 := Lib.hid hgrow; have HAT := Lib.hid hat; clear hown9 hgrow hnil hat)))
      case s4 => first | exact (Bx.new w7 Ins.zeroRec.cells 31).there 39 rfl | exact (Bx.new w7 Ins.zeroRec.cells 31).there _ (by rw [show oc.toArray.size = 39 by simpa using hol]; rfl)
      case s5 => first | exact infoEx | (rw [List.size_toArray, hol]; kernel_rfl)
      case s6 => first | exact hoc | exact all_oneCell_toArray hoc
      have hba : Below W8.heap.size W8 (W8.alloc (.cells oc.toArray 31)) := (Below.refl _ W8).alloc (Nat.le_refl _) _
      have hsa : (W8.alloc (.cells oc.toArray 31)).heap.size = W8.heap.size + 1 := by simp
      have hs9 := HG9.out.size
      have hs7 := b7.size
      have k79 : Kp (fun b => (Value.slice ao3 k c3).ownBlock = some b) w7 w9 := ((Kp.of_below b8).then (Kp.of_below hba)).then (Kp.of_grown HG9.out (fun r e _ => e))
      have kpA : Kp (fun b => (Value.slice ao3 k c3).ownBlock = some b) wr w9 := (Kp.of_below b7).then k79
      have hold : ∀ b, (Value.slice ao3 k c3).ownBlock = some b → w1.heap.size ≤ b ∧ b < wr.heap.size := fun b e => HOWN.out.lt b e
      have B9 : Below w1.heap.size w1 w9 := br.trans (kpA.below br.size (fun i hi e => by have := (hold i e).1; omega))
      have HNEW := Lib.hid (show ∃ ys, w9.ownsRow w1.heap.size 31 39 (.slice (some ⟨g', 0, none⟩) (k + 1) cap') (k + 1) ys ∧ Rows39 (fun b => w1.heap.size ≤ b ∧ b < w9.heap.size ∧ (Value.slice (some ⟨g', 0, none⟩) (k + 1) cap').ownBlock ≠ some b) w9 ys (rs.take (k + 1)) from by
        refine ⟨_, HN9.out, ?_⟩
        rw [HTK.out]
        have q1 := HXS.out.ag (Ag.of_kp kpA (fun b _ hS hM => hS.2.2 hM))
        have q2 := HREC.out.ag (Ag.of_kp k79 (fun b _ hS hM => by have := (hold b hM).2; omega))
        have hnb : ∀ b, b < W8.heap.size + 1 → (Value.slice ao3 k c3).ownBlock ≠ some b → (Value.slice (some ⟨g', 0, none⟩) (k + 1) cap').ownBlock ≠ some b := fun b hb hne e => by
          rcases HAT.out with h | h
          · rw [h] at e; exact hne e
          · rw [h] at e
            have := Option.some.inj e
            omega
        exact (q1.mono fun b hb => ⟨hb.1, by omega, hnb b (by omega) hb.2.2⟩).snoc (q2.sub fun b _ hb => ⟨by have := br.size; omega, by omega, hnb b (by omega) (fun e => by have := (hold b e).2; omega)⟩))
      clear r8 b8 how8 hba hsa hs9 k79 kpA hold
      go_roundw
      case rel => exact ⟨k + 1, _, _, by omega, by go_num, rfl, HNEW, B9⟩
      case measure => simp [intOf]; omega
    · have hkn : n = k := by omega
      subst hkn
      obtain ⟨xs, hown, hrows⟩ := HW.out
      rw [List.take_of_length_le (by rw [HN.out]; exact Nat.le_refl _)] at hrows
      have HE := Lib.hid (show Op.Recs (fun b => w.heap.size ≤ b ∧ b < wr.heap.size) wr (.slice ao3 n c3) rs from by
        have h1 := hown
        rw [← HN.out] at h1 ⊢
        refine recs_of h1 (hrows.mono fun b hb => ⟨Nat.le_trans b1.size hb.1, hb.2.1⟩) fun b hb => ?_
        have h2 := h1.lt b hb
        exact ⟨Nat.le_trans b1.size h2.1, h2.2⟩)
      clear HW hown hrows
      go_wp2_with fail
      go_ret
      exact ⟨_, rfl, HE.out, B⟩
end Go.Proofs.YtmmmghpimdfleaaGreatDoor.St

set_option linter.unusedVariables false
set_option maxRecDepth 20000
namespace Go.Proofs.YtmmmghpimdfleaaGreatDoor.Op
open Go.ChangeShapes Go.WideShapes Go.ChangeAt Go.RowKit Mem Tr
open Go.Proofs.YtmmmghpimdfleaaGreatDoor.Swp (Uses)

theorem c_use : Tryz.prog.cellsOf 81 = 2 := by kernel_rfl
theorem c_uses : Tryz.prog.cellsOf 72 = 1 := by kernel_rfl
theorem c_job : Tryz.prog.cellsOf 74 = 3 := by kernel_rfl
def bulkU (l : List (ByteArray × Int)) : Nat := (l.map fun x => x.1.size + 2).sum
theorem bulkU_len (l : List (ByteArray × Int)) : 2 * l.length ≤ bulkU l := by
  induction l with
  | nil => exact Nat.le_refl _
  | cons x l ih => unfold bulkU at *; rw [List.map_cons, List.sum_cons, List.length_cons]; omega
theorem bulkU_mem {l : List (ByteArray × Int)} {x : ByteArray × Int} (h : x ∈ l) : x.1.size ≤ bulkU l := by
  induction l with
  | nil => cases h
  | cons y l ih =>
    unfold bulkU at *
    rw [List.map_cons, List.sum_cons]
    rcases List.mem_cons.1 h with rfl | h
    · omega
    · have := ih h; omega
/-- A Job in memory. -/
structure JobAt (w : World) (cs : List Value) (roots : List ByteArray) (us : List (ByteArray × Int)) (want : Int) (rv uv : Value) : Prop where
  cells : cs = [rv, uv, .int .i64 want]
  roots : Strs (Old w) w rv roots
  uses : Uses (Old w) w uv us
  cnt : ∀ x ∈ us, x.2 < 9223372036854775808
  want : want < 9223372036854775808
section
variable {H : Type} {enc : TypeId × Value → H} {w : World} {spare : Nat → Bool} {held : Bool}
theorem open_use {n : Nat} {cs : List Value} {x : DataW H × List MemPlace} (h : DataW.trod enc Tryz.prog w 0 spare held n 81 cs = some x) :
    ∃ (p : ByteArray) (c : Int), cs = [.string p, .int .i64 c] ∧ c < 9223372036854775808 ∧ p.size + 3 = Rows.uptoBulk x.1 := by
  obtain ⟨xs, m, _, rfl, hl, hlen, hf⟩ := DataW.trod_struct Tryz.underlying81 h
  rw [c_use] at hl
  match cs, hl with
  | [a, b], _ =>
  match xs, hlen with
  | [y0, y1], _ =>
    have h0 : DataW.trod enc Tryz.prog w 0 spare held m 9 (([a, b].drop 0).take (Tryz.prog.cellsOf 9)) = some y0 := hf 0 _ rfl
    have h1 : DataW.trod enc Tryz.prog w 0 spare held m 3 (([a, b].drop 1).take (Tryz.prog.cellsOf 3)) = some y1 := hf 1 _ rfl
    rw [c_str] at h0
    rw [c_int] at h1
    obtain ⟨p, e0, rfl, _⟩ := DataW.trod_string Tryz.underlying9 h0
    obtain ⟨c, e1, rfl, hw⟩ := DataW.trod_int Tryz.underlying3 h1
    obtain rfl : a = .string p := one_of e0
    obtain rfl : b = .int .i64 c := one_of e1
    refine ⟨p, c, rfl, ?_, ?_⟩
    · have := bounds_i64 hw; omega
    · show p.size + 3 = Rows.uptoBulk (.agg [.lit (.string p.data.toList), .lit (.int .i64 c)])
      rw [bulk_agg2, bulk_str, bulk_int]
theorem open_uselist {n : Nat} (b : Nat) : ∀ (l : List (DataW H × List MemPlace)) (off : Nat), (∀ i, i < l.length → (w.cells? 0 ⟨b, off + i * 2, none⟩ 2).bind (DataW.trod enc Tryz.prog w 0 spare held n 81) = l[i]?) →
    ∃ us : List (ByteArray × Int), us.length = l.length ∧ (∀ j (h : j < us.length), w.cell? ⟨b, off + j * 2, none⟩ = some (.string us[j].1) ∧ w.cell? ⟨b, off + j * 2 + 1, none⟩ = some (.int .i64 us[j].2)) ∧ (∀ x ∈ us, x.2 < 9223372036854775808) ∧ bulkU us ≤ Rows.uptoBulkAll (l.map (·.1)) := by
  intro l
  induction l with
  | nil => intro off _; exact ⟨[], rfl, fun j h => absurd h (by simp), fun x h => (by cases h), Nat.zero_le _⟩
  | cons x l ih =>
    intro off h
    have h0 := h 0 (by simp)
    obtain ⟨cs, h1, h2⟩ := Option.bind_eq_some_iff.1 (show _ = some x from h0)
    obtain ⟨p, c, rfl, hc9, hb⟩ := open_use h2
    obtain ⟨_, hl2, hc⟩ := World.cells?_some h1
    obtain ⟨us, hl, hel, hbd, hbk⟩ := ih (off + 2) (fun i hi => by
      have := h (i + 1) (by simpa using hi)
      rw [show off + (i + 1) * 2 = off + 2 + i * 2 by omega] at this
      simpa using this)
    refine ⟨(p, c) :: us, by simp [hl], ?_, ?_, ?_⟩
    · intro j hj
      cases j with
      | zero =>
        have q0 := hc 0 (by omega)
        have q1 := hc 1 (by omega)
        rw [add_plain] at q0 q1
        exact ⟨by simpa using q0, by simpa using q1⟩
      | succ j =>
        obtain ⟨q1, q2⟩ := hel j (by simpa using hj)
        rw [show off + 2 + j * 2 = off + (j + 1) * 2 by omega] at q1 q2
        exact ⟨by simpa using q1, by simpa using q2⟩
    · intro y hy
      rcases List.mem_cons.1 hy with rfl | hy
      · exact hc9
      · exact hbd y hy
    · show p.size + 2 + bulkU us ≤ Rows.uptoBulk x.1 + Rows.uptoBulkAll (l.map (·.1))
      omega
theorem open_uses {fuel : Nat} {cs : List Value} {x : DataW H × List MemPlace} (h : DataW.trod enc Tryz.prog w 0 spare held fuel 72 cs = some x) :
    ∃ v l, cs = [v] ∧ Uses (Old w) w v l ∧ (∀ x ∈ l, x.2 < 9223372036854775808) ∧ bulkU l + 1 ≤ Rows.uptoBulk x.1 := by
  rcases DataW.trod_slice Tryz.underlying72 h with ⟨rfl, rfl⟩ | ⟨a, len, cap, elems, rest, n, hn, rfl, rfl, hb, hl, hm, hlen, hel, hsp, hns⟩
  · exact ⟨_, [], rfl, Swp.Uses.nil _ _, fun x h => (by cases h), Nat.le_refl _⟩
  · rw [c_use] at hel
    have key : ∃ l : List (ByteArray × Int), l.length = len ∧ (l = [] ∨ ∃ b off, some a = some ⟨b, off, none⟩ ∧ Old w b ∧ ∀ j (h : j < l.length), w.cell? ⟨b, off + j * 2, none⟩ = some (.string l[j].1) ∧ w.cell? ⟨b, off + j * 2 + 1, none⟩ = some (.int .i64 l[j].2)) ∧ (∀ x ∈ l, x.2 < 9223372036854775808) ∧ bulkU l ≤ Rows.uptoBulkAll (elems.map (·.1)) := by
      by_cases h0 : len = 0
      · exact ⟨[], by rw [h0]; rfl, .inl rfl, fun x h => (by cases h), Nat.zero_le _⟩
      · have h1 := hel 0 (by omega)
        rw [List.getElem?_eq_getElem (by omega)] at h1
        obtain ⟨cs', h2, h3⟩ := Option.bind_eq_some_iff.1 h1
        obtain ⟨_, hl5, hc⟩ := World.cells?_some h2
        have h4 := hc 0 (by omega)
        rw [List.getElem?_eq_getElem (by omega)] at h4
        obtain ⟨b, off, spot⟩ := a
        have hspot : spot = none := by simpa [Addr.add] using World.cell?_spot h4
        subst hspot
        obtain ⟨us, k1, k2, k3, k4⟩ := open_uselist b elems off (fun i hi => by
          have := hel i (by omega)
          rwa [add_plain] at this)
        exact ⟨us, k1.trans hlen, .inr ⟨b, off, rfl, World.block_lt_of_cell? w _ h4, k2⟩, k3, k4⟩
    obtain ⟨l, rfl, k2, k3, k4⟩ := key
    refine ⟨_, l, rfl, ⟨some a, cap, rfl, hl, hm, k2⟩, k3, ?_⟩
    show bulkU l + 1 ≤ Rows.uptoBulkAll (elems.map (·.1)) + _ + 1
    omega
theorem bulk_agg3 (a b c : DataW H) : Rows.uptoBulk (.agg [a, b, c]) = Rows.uptoBulk a + (Rows.uptoBulk b + (Rows.uptoBulk c + 0)) + 1 := rfl
theorem arg_job {base : Nat} {v : Value} {d : DataW H} {ps : List MemPlace} (hv : Value.okWide Tryz.prog w .any base 74 v) (h : DataW.Trod enc Tryz.prog w 0 spare held 74 v d ps) :
    ∃ (roots : List ByteArray) (us : List (ByteArray × Int)) (want : Int) (rv uv : Value) (cs : List Value), v = .agg cs.toArray ∧ JobAt w cs roots us want rv uv ∧ bulks roots + bulkU us + 4 ≤ Rows.uptoBulk d := by
  obtain ⟨⟨l⟩, rfl, _⟩ := okWide_struct Tryz.underlying74 hv
  obtain ⟨fuel, hf⟩ := h
  have hf : DataW.trod enc Tryz.prog w 0 spare held fuel 74 l = some _ := hf
  obtain ⟨xs, n, _, he, hl, hlen, hg⟩ := DataW.trod_struct Tryz.underlying74 hf
  rw [c_job] at hl
  match l, hl with
  | [a, b, c], _ =>
  match xs, hlen with
  | [y0, y1, y2], _ =>
    have h0 : DataW.trod enc Tryz.prog w 0 spare held n 27 (([a, b, c].drop 0).take (Tryz.prog.cellsOf 27)) = some y0 := hg 0 _ rfl
    have h1 : DataW.trod enc Tryz.prog w 0 spare held n 72 (([a, b, c].drop 1).take (Tryz.prog.cellsOf 72)) = some y1 := hg 1 _ rfl
    have h2 : DataW.trod enc Tryz.prog w 0 spare held n 3 (([a, b, c].drop 2).take (Tryz.prog.cellsOf 3)) = some y2 := hg 2 _ rfl
    rw [c_strs] at h0
    rw [c_uses] at h1
    rw [c_int] at h2
    obtain ⟨rv, roots, e0, hr, hbr, _⟩ := open_texts h0
    obtain ⟨uv, us, e1, hu, hcu, hbu⟩ := open_uses h1
    obtain ⟨z, e2, rfl, hw⟩ := DataW.trod_int Tryz.underlying3 h2
    obtain rfl : a = rv := one_of e0
    obtain rfl : b = uv := one_of e1
    obtain rfl : c = .int .i64 z := one_of e2
    refine ⟨roots, us, z, a, b, [a, b, .int .i64 z], rfl, ⟨rfl, hr, hu, hcu, by have := bounds_i64 hw; omega⟩, ?_⟩
    have hd : d = .agg [y0.1, y1.1, .lit (.int .i64 z)] := congrArg Prod.fst he
    rw [hd, bulk_agg3, bulk_int]
    omega
end
/-- the Job of nothing -/
def zeroJob : Value := .agg #[.slice none 0 0, .slice none 0 0, .int .i64 0]
end Go.Proofs.YtmmmghpimdfleaaGreatDoor.Op
