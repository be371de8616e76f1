/-
  The law's alike of two stores that hold the same records.
-/
import Derived.Test.YtmmmghpimdfleaaGreatDoorRSame
import Derived.Test.YtmmmghpimdfleaaGreatDoorGrpO
import Derived.Test.YtmmmghpimdfleaaGreatDoorStock
set_option linter.unusedVariables false
set_option linter.unusedSimpArgs false
namespace Go.Proofs.YtmmmghpimdfleaaGreatDoor.St
open Go.RowKit Mem Tr
open Go.Proofs.YtmmmghpimdfleaaGreatDoor.Own

theorem stash_bx {w2 W : World} {Z : Array Value} {T : TypeId} {cs : List Value} (hW : (w2.alloc (.cells Z T)).setCells w2.heap.size 0 cs = W) (hz : Z.size = cs.length) : Bx W w2.heap.size cs.toArray T := by
  obtain ⟨zs, hb, hs⟩ := bx_setCells cs 0 _ (Bx.new w2 Z T)
  have hr := stash_range hW hz
  rw [hW] at hb
  have e : zs = cs.toArray := by
    apply Array.ext
    · simp; omega
    · intro j h1 h2
      have hj : j < cs.length := by simpa using h2
      have h3 := hr j cs[j] (List.getElem?_eq_getElem hj)
      rw [Nat.zero_add, hb.cell, Array.getElem?_eq_getElem h1] at h3
      simpa using Option.some.inj h3
  rw [← e]; exact hb
theorem range_below {w w' : World} {b o : Nat} {cs : List Value} (h : w.rangeAt b o cs) (hb : Below w.heap.size w w') : w'.rangeAt b o cs := fun j u hj =>
  (hb.cell (p := ⟨b, o + j, none⟩) (World.block_lt_of_cell? w _ (h j u hj))).trans (h j u hj)
/-- the texts of a row that a call has made -/
theorem own_paths {w : World} {B : Nat} {v : Value} {l : List ByteArray} (h : w.ownsRow B 9 1 v l.length (l.map .string)) : Strs (fun b => B ≤ b) w v l := Strs.of_own h

set_option maxHeartbeats 4000000 in
set_option maxRecDepth 20000 in
theorem alikeC (M F M' F' : Nat → Prop) (s s' : Nat) (rs : List Rec) (w : World) (h : Is M F w s rs) (h' : Is M' F' w s' rs) (hn : rs.length ≤ 1073741823) (hbk : ∀ r ∈ rs, r.bulk ≤ 4194304) :
    Calls Tryz.prog 28 #[.pointer (some ⟨s, 0, none⟩), .pointer (some ⟨s', 0, none⟩)] w fun e w' => e = .returned (.bool true) ∧ Below w.heap.size w w' := by
  have H := Lib.hid h
  have H' := Lib.hid h'
  have HBK := Lib.hid hbk
  have hml : (rs.map fun r => Value.string r.path) = (rs.map Rec.path).map Value.string := by rw [List.map_map]; rfl
  obtain ⟨ps, hps⟩ : ∃ ps, rs.map Rec.path = ps := ⟨_, rfl⟩
  have HPS := Lib.hid hps
  have hpl : ps.length = rs.length := by rw [← hps, List.length_map]
  obtain ⟨n, hnn⟩ : ∃ n, rs.length = n := ⟨_, rfl⟩
  have HN := Lib.hid hnn
  have HPL := Lib.hid hpl
  rw [hnn] at hn
  have HML := Lib.hid hml
  clear h h' hbk hml hps hpl hnn
  go_enter Tryz.func28, Tryz.ntmps28
  go_wp2_with fail
  refine (pathsC M F s rs w H.out (by rw [HN.out]; omega)).mono ?_
  rintro e w1 ⟨v1, rfl, ho1, b1⟩
  rw [HML.out, HPS.out, ← HPL.out] at ho1
  have HO1 := Lib.hid ho1
  obtain ⟨a1, c1, rfl⟩ := Tab.own_len ho1
  rw [HPL.out, HN.out] at HO1 ⊢
  clear ho1
  go_wp2_with fail
  refine (pathsC M' F' s' rs w1 (H'.out.below b1) (by rw [HN.out]; omega)).mono ?_
  rintro e w2 ⟨v2, rfl, ho2, b2⟩
  rw [HML.out, HPS.out, ← HPL.out] at ho2
  have HO2 := Lib.hid ho2
  obtain ⟨a2, c2, rfl⟩ := Tab.own_len ho2
  have B2 := b1.trans (b2.mono b1.size)
  rw [HPL.out, HN.out] at HO2 ⊢
  clear ho2
  have hr1 : Texts.Reads w2 (.slice a1 n c1) ps := by
    have := (Strs.of_own (l := ps) (by rw [HPL.out, HN.out]; exact Copy.own_below HO1.out b2) : Strs _ w2 _ ps).reads
    exact this
  have hr2 : Texts.Reads w2 (.slice a2 n c2) ps := by
    have := (Strs.of_own (l := ps) (by rw [HPL.out, HN.out]; exact HO2.out) : Strs _ w2 _ ps).reads
    exact this
  have HS1 := Lib.hid (show Strs (fun b => w.heap.size ≤ b) w2 (.slice a1 n c1) ps from Strs.of_own (by rw [HPL.out, HN.out]; exact Copy.own_below HO1.out b2))
  go_wp2_with fail
  refine (Texts.texts w2 _ _ ps ps hr1 hr2).mono ?_
  rintro e w3 ⟨rfl, sm⟩
  rw [show decide (ps = ps) = true from decide_eq_true rfl]
  have b3 : Below w2.heap.size w2 w3 := sm.below (Below.refl _ _)
  have B3 := B2.trans (b3.mono B2.size)
  clear hr1 hr2 sm
  go_wp2_with fail
  go_loopw [7, 8, 9, 10, 11, 25] (fun _ _ _ _ _ i wr => ∃ k : Nat, k ≤ n ∧ i = .int .i64 k ∧ Below w3.heap.size w3 wr) (fun _ _ _ _ _ i _ => n - (intOf i).toNat)
  case atStart => exact ⟨0, Nat.zero_le _, rfl, Below.refl _ _⟩
  case round =>
    obtain ⟨k, hk, rfl, br⟩ := hrel
    have BR := B3.trans (br.mono B3.size)
    by_cases hlt : k < n
    · have b2r := b3.trans (br.mono b3.size)
      obtain ⟨rb, ro, rcap, hrv, hcells⟩ := strs_at (HS1.out.below b2r) (by rw [HPL.out, HN.out]; omega)
      injection hrv with hrv1 hrv2 hrv3
      subst hrv1
      clear hrv2 hrv3
      have hkl : k < ps.length := by rw [HPL.out, HN.out]; exact hlt
      have gk := hcells k hkl
      have hkr : k < rs.length := by rw [HN.out]; exact hlt
      have hpk : ps[k] = rs[k].path := by
        have : ps[k]? = some rs[k].path := by rw [← HPS.out, List.getElem?_map, List.getElem?_eq_getElem hkr]; rfl
        rw [List.getElem?_eq_getElem hkl] at this
        exact Option.some.inj this
      have hget : Sp.get Rec.path rs ps[k] = some rs[k] := by rw [hpk]; exact Sp.get_of_mem H.out.rise (List.getElem_mem _)
      have hrb := HBK.out rs[k] (List.getElem_mem _)
      obtain ⟨q, hq⟩ : ∃ q, ps[k] = q := ⟨_, rfl⟩
      obtain ⟨r, hr⟩ : ∃ r, rs[k] = r := ⟨_, rfl⟩
      rw [hq] at gk hget
      rw [hr] at hget hrb
      have HGET := Lib.hid hget
      have HRB := Lib.hid hrb
      have e0 : (0 : Int) ≤ (k : Int) := Int.natCast_nonneg _
      have e1 : (k : Int) < (n : Int) := by omega
      clear hcells hq hr hget hpk hrb
      go_wp2_with fail
      refine (getC M F s rs q wr (H.out.below (B3.trans (br.mono B3.size))) (by rw [HN.out]; omega) HBK.out).mono ?_
      rintro e w7 ⟨b7, hm⟩
      rw [HGET.out] at hm
      obtain ⟨cs1, rfl, hrec1⟩ := hm
      have hl1 := hrec1.length
      have hoc1 := Tab.recOne hrec1
      have HREC1 := Lib.hid hrec1
      have BR7 := BR.trans (b7.mono BR.size)
      clear hrec1
      go_wp2_with (refine wpList_store_mid (by rfl) 31 _ _ (by rfl) w7.heap.size 0 cs1.toArray (by rfl) (by rfl) ?s4 ?s5 ?s6 ?_; rotate_right; refine Mem.named ?_; intro W8 hW8)
      case s4 => first | exact (Bx.new w7 Ins.zeroRec.cells 31).there 39 rfl | exact (Bx.new w7 Ins.zeroRec.cells 31).there _ (by rw [show cs1.toArray.size = 39 by simpa using hl1]; rfl)
      case s5 => first | exact infoEx | (rw [List.size_toArray, hl1]; kernel_rfl)
      case s6 => first | exact hoc1 | exact all_oneCell_toArray hoc1
      have R8 := Lib.hid (stash_range hW8 hl1.symm)
      have b8 := stash hW8
      have BR8 := BR7.trans (b8.mono BR7.size)
      clear hW8
      refine (getC M' F' s' rs q W8 (H'.out.below BR8) (by rw [HN.out]; omega) HBK.out).mono ?_
      rintro e w9 ⟨b9, hm⟩
      rw [HGET.out] at hm
      obtain ⟨cs2, rfl, hrec2⟩ := hm
      have hl2 := hrec2.length
      have hoc2 := Tab.recOne hrec2
      have HREC2 := Lib.hid hrec2
      have BR9 := BR8.trans (b9.mono BR8.size)
      clear hrec2
      have hu := Tryz.underlying31
      go_wp2_with (first
        | (refine wpList_store_mid (by rfl) 31 _ _ (by rfl) w9.heap.size 0 cs2.toArray (by rfl) (by rfl) ?t4 ?t5 ?t6 ?_; rotate_right; refine Mem.named ?_; intro W10 hW10; have r1 := range_below R8.out (b9.trans ((stash hW10).mono b9.size)); have r2 := stash_range hW10 hl2.symm)
        | (refine wpList_load_mid rfl 31 _ (by rfl) w7.heap.size 0 (by rfl) cs1 _ r1 hu rfl (by rw [hl1]; kernel_rfl) ?_)
        | (refine wpList_load_mid rfl 31 _ (by rfl) w9.heap.size 0 (by rfl) cs2 _ r2 hu rfl (by rw [hl2]; kernel_rfl) ?_))
      case t4 => first | exact (Bx.new w9 Ins.zeroRec.cells 31).there 39 rfl | exact (Bx.new w9 Ins.zeroRec.cells 31).there _ (by rw [show cs2.toArray.size = 39 by simpa using hl2]; rfl)
      case t5 => first | exact infoEx | (rw [List.size_toArray, hl2]; kernel_rfl)
      case t6 => first | exact hoc2 | exact all_oneCell_toArray hoc2
      have b10 := stash hW10
      have BR10 := BR9.trans (b10.mono BR9.size)
      clear r1 r2 hW10
      refine (rsameC _ _ r r cs1 cs2 W10 (HREC1.out.below (b8.trans ((b9.trans (b10.mono b9.size)).mono b8.size))) (HREC2.out.below b10) HRB.out).mono ?_
      rintro e w11 ⟨rfl, b11⟩
      rw [show eqR r r = true from decide_eq_true rfl]
      have b3r := br.trans ((b7.trans ((b8.trans ((b9.trans ((b10.trans (b11.mono b10.size)).mono b9.size)).mono b8.size)).mono b7.size)).mono br.size)
      go_wp2_with fail
      go_roundw
      case rel => exact ⟨k + 1, by omega, by go_num, b3r⟩
      case measure => simp [intOf]; omega
    · obtain rfl : k = n := by omega
      go_wp2_with fail
      go_ret
      exact ⟨rfl, BR⟩
end Go.Proofs.YtmmmghpimdfleaaGreatDoor.St
