/-
  SweepKeeps: the walk of the law (printed by tools/mkkeep.py).
-/
import Derived.Test.YtmmmghpimdfleaaGreatDoorGrpZA
import Derived.Test.YtmmmghpimdfleaaGreatDoorGrpZB
import Derived.Test.YtmmmghpimdfleaaGreatDoorJobK
import Derived.Test.YtmmmghpimdfleaaGreatDoorAppS
import Derived.Laws.StructEq
set_option linter.unusedVariables false
set_option linter.unusedSimpArgs false
namespace Go.Proofs.YtmmmghpimdfleaaGreatDoor.sweepKeeps
open Go.RowKit Mem Tr St Swp
open Go.Proofs.YtmmmghpimdfleaaGreatDoor.Own
open Go.Proofs.YtmmmghpimdfleaaGreatDoor.AppS (step_append_own)

def gap : ByteArray := ⟨#[103, 97, 112]⟩
theorem eqUse (p : ByteArray) (c : Int) (w : World) : (Op.equalIn 10000 81 (.agg #[.string p, .int .i64 c]) (.agg #[.string p, .int .i64 c])).run Tryz.prog w = .ok true w := by
  have u1 := Tryz.underlying9
  have u2 := Tryz.underlying3
  have z1 : Tryz.prog.cellsOf 9 = 1 := by kernel_rfl
  have z2 : Tryz.prog.cellsOf 3 = 1 := by kernel_rfl
  have hS : Tryz.prog.underlying 81 = some (.struct (Tryz.prog.fieldsOf 81)) := by kernel_rfl
  have hp : Tryz.prog.stoodInHeld 81 = false := by kernel_rfl
  rw [show (10000 : Nat) = 9999 + 1 from rfl, run_equalIn_agg w 9999 81 _ _ hS hp]
  simp only [Program.fieldsOf, Tryz.underlying81]
  go_simp
theorem lives_same {rs : List Rec} {a b : List ByteArray} (h : ∀ x, Sto.has rs x = true → x ∈ a → x ∈ b) {p : ByteArray} (hp : Lives rs a p) : Lives rs b p := by
  unfold Lives there at hp
  induction hp with
  | root hm =>
    rw [List.mem_filter] at hm
    exact .root (List.mem_filter.2 ⟨h _ hm.2 hm.1, hm.2⟩)
  | step _ hr hq ih => exact .step ih hr hq
open Classical in
theorem dead_same {rs : List Rec} {a b : List ByteArray} (h : ∀ x, Sto.has rs x = true → (x ∈ a ↔ x ∈ b)) : deadL rs a = deadL rs b := by
  unfold deadL deadTo
  congr 1
  refine List.filter_congr fun r _ => ?_
  have e : (¬ Lives rs a r.path) = (¬ Lives rs b r.path) := by
    rw [show Lives rs a r.path = Lives rs b r.path from propext ⟨lives_same (fun x hx => (h x hx).1), lives_same (fun x hx => (h x hx).2)⟩]
  rw [Bool.eq_iff_iff, decide_eq_true_eq, decide_eq_true_eq, e]
theorem fin4 {w : World} {B m a4 : Nat} {v : Value} {xs : List Value} (hown : w.ownsRow B 9 1 v m xs) (hx : Bx w a4 #[.string gap, .string gap] 9) (hm : m ≤ 4194304) (hB : B ≤ w.heap.size) :
    ∃ (g k : Nat) (w' : World), (Builtin.append_ #[27, 27] 27 #[v, .slice (some ⟨a4, 0, none⟩) 2 2]).run Tryz.prog w = .ok (.slice (some ⟨g, 0, none⟩) (m + 2) k) w' ∧ w'.ownsRow B 9 1 (.slice (some ⟨g, 0, none⟩) (m + 2) k) (m + 2) (xs ++ [.string gap, .string gap]) ∧ w.grownBy w' v.ownBlock ∧ m + 2 ≤ k := by
  obtain ⟨i0, hi, hz0, hz1, hz2⟩ := info_parts Make.infoStr
  have hr := hx.range
  obtain ⟨v', w', h1, h2, h3, _, _⟩ := run_append_own_at (P := Tryz.prog) w B 27 27 9 i0 (.string ⟨#[]⟩) 1 16 Tryz.underlying27 hi hz0 hz1 hz2 rfl (by decide) v m xs hown ⟨a4, 0, none⟩ 2 2 [.string gap, .string gap] rfl (fun j u hj => by
    rw [Go.WideShapes.add_plain]
    exact hr j u (by simpa using hj)) (by intro u hu; simp only [List.mem_cons, List.not_mem_nil, or_false] at hu; rcases hu with rfl | rfl <;> rfl) (by unfold maxLen; omega) (by omega) hB
  obtain ⟨g, k, rfl⟩ := ownsRow_succ h2
  refine ⟨g, k, w', h1, h2, h3, ?_⟩
  rcases h2.2 with ⟨h', _⟩ | ⟨g', cap', cur, h', _, _, hn, _⟩
  · cases h'
  · cases h'; exact hn

theorem fin5 {w : World} {B m a4 : Nat} {v : Value} {xs : List Value} (hown : w.ownsRow B 81 2 v m xs) (hx : Bx w a4 #[.string gap, .int .i64 0] 81) (hm : m ≤ 4194304) (hB : B ≤ w.heap.size) :
    ∃ (g k : Nat) (w' : World), (Builtin.append_ #[72, 72] 72 #[v, .slice (some ⟨a4, 0, none⟩) 1 1]).run Tryz.prog w = .ok (.slice (some ⟨g, 0, none⟩) (m + 1) k) w' ∧ w'.ownsRow B 81 2 (.slice (some ⟨g, 0, none⟩) (m + 1) k) (m + 1) (xs ++ [.string gap, .int .i64 0]) ∧ w.grownBy w' v.ownBlock ∧ m + 1 ≤ k := by
  obtain ⟨i0, hi, hz0, hz1, hz2⟩ := info_parts infoUse2
  have hr := hx.range
  obtain ⟨v', w', h1, h2, h3, _, _⟩ := run_append_own_at (P := Tryz.prog) w B 72 72 81 i0 (.agg Z2) 2 24 Tryz.underlying72 hi hz0 hz1 hz2 rfl (by decide) v m xs hown ⟨a4, 0, none⟩ 1 1 [.string gap, .int .i64 0] rfl (fun j u hj => by
    rw [Go.WideShapes.add_plain]
    exact hr j u (by simpa using hj)) (by intro u hu; simp only [List.mem_cons, List.not_mem_nil, or_false] at hu; rcases hu with rfl | rfl <;> rfl) (by unfold maxLen; omega) (by omega) hB
  obtain ⟨g, k, rfl⟩ := ownsRow_succ h2
  refine ⟨g, k, w', h1, h2, h3, ?_⟩
  rcases h2.2 with ⟨h', _⟩ | ⟨g', cap', cur, h', _, _, hn, _⟩
  · cases h'
  · cases h'; exact hn

set_option maxHeartbeats 8000000 in
set_option maxRecDepth 20000 in
theorem walk {rc st : Nat → BitVec 32} (w : World) (hg : Sum.Gl rc st w) (v : Value) (l : List Rec) (hr : Op.Recs (fun b => b < w.heap.size) w v l) (roots : List ByteArray) (us : List (ByteArray × Int)) (want : Int) (rv uv : Value) (hj : Op.JobK w [rv, uv, .int .i64 want] roots us want rv uv) (other : ByteArray) (hb : Op.bulkR l + 2 * (bulks roots + Op.bulkU us) + 2 * (other.size + 1) ≤ 2097152) :
    Calls Tryz.prog 11 #[v, .agg #[rv, uv, .int .i64 want], .string other] w fun e w' => e = .returned (.bool true) ∧ Below w.heap.size w w' := by
  have HR := Lib.hid hr
  have HG := Lib.hid hg
  have HJ := Lib.hid hj.job
  have HCR := Lib.hid hj.capR
  have HCU := Lib.hid hj.capU
  have hfit : Fit (stockF rc st [] l) := fit_stock (by omega)
  obtain ⟨rs, hrs⟩ : ∃ rs, stockF rc st [] l = rs := ⟨_, rfl⟩
  have HRS := Lib.hid hrs
  rw [hrs] at hfit
  have HFIT := Lib.hid hfit
  have hbl : Op.bulkR l ≤ 4194304 := by omega
  have hrl : roots.length ≤ 1048575 := by have := length_bulks roots; omega
  have hul : us.length ≤ 2097152 := by have := Op.bulkU_len us; omega
  have HUS := Lib.hid (show ∀ x ∈ us, x.1.size ≤ 4194304 ∧ x.2 < 9223372036854775808 from fun x hx => ⟨by have := Op.bulkU_mem hx; omega, hj.job.cnt x hx⟩)
  obtain ⟨m, hm⟩ : ∃ m, roots.length = m := ⟨_, rfl⟩
  have HM := Lib.hid hm
  obtain ⟨mu, hmu⟩ : ∃ m, us.length = m := ⟨_, rfl⟩
  have HMU := Lib.hid hmu
  obtain ⟨ao, cap, rfl, _, _, _⟩ := hj.job.roots
  obtain ⟨ao2, cap2, rfl, _, _, _⟩ := hj.job.uses
  obtain ⟨ao3, cap3, rfl, _, _, _⟩ := id hr
  rw [hm] at hrl HJ HCR ⊢
  rw [hmu] at hul HJ HCU ⊢
  clear hr hg hb hfit hrs hj hm hmu
  go_enter Tryz.func11, Tryz.ntmps11
  go_wp2_with fail
  refine calls_named fun w0 hw0 => ?_
  obtain ⟨b0, x0⟩ := alloc_fact hw0
  have X0 := Lib.hid (show Bx w0 w.heap.size #[.slice ao m cap, .slice ao2 mu cap2, .int .i64 want] 74 from x0)
  clear hw0 x0
  have HR0 := Lib.hid ((HR.out.below b0).mono fun b h => Nat.lt_of_lt_of_le h b0.size)
  refine (stockedC19 rc st _ l w0 (HG.out.below b0) HR0.out hbl).mono ?_
  rintro e w1 ⟨M1, F1, s1, rfl, h1, hMF1, c1⟩
  rw [HRS.out] at h1
  have H1 := Lib.hid h1
  have HM1 := Lib.hid hMF1
  have HX1 := Lib.hid (show ∀ b, M1 b ∨ F1 b → b < w1.heap.size from h1.lt)
  clear h1 hMF1
  go_wp2_with fail
  refine (stockedC19 rc st _ l w1 (HG.out.below (b0.trans (c1.mono b0.size))) ((HR0.out.below c1).mono fun b h => Nat.lt_of_lt_of_le h c1.size) hbl).mono ?_
  rintro e w2 ⟨M2, F2, s2, rfl, h2, hMF2, d2⟩
  rw [HRS.out] at h2
  have H2 := Lib.hid h2
  have HM2 := Lib.hid hMF2
  have HX2 := Lib.hid (show ∀ b, M2 b ∨ F2 b → b < w2.heap.size from h2.lt)
  have c2 := c1.trans (d2.mono c1.size)
  clear h2 hMF2
  go_wp2_with fail
  refine (awakeC19 rc st w2 (HG.out.below (b0.trans (c2.mono b0.size)))).mono ?_
  rintro e w3 ⟨rfl, d3⟩
  have c3 := c2.trans (d3.mono c2.size)
  have HZ := Lib.hid (show w0.heap.size ≤ w1.heap.size ∧ w1.heap.size ≤ w2.heap.size ∧ w2.heap.size ≤ w3.heap.size from ⟨c1.size, d2.size, d3.size⟩)
  have A1 := Lib.hid ((H1.out.below d2).below d3)
  have A2 := Lib.hid (H2.out.below d3)
  have GX := Lib.hid (show ∀ W, Below w0.heap.size w0 W → W.cell? ⟨w.heap.size, 0, none⟩ = some (.slice ao m cap) ∧ W.cell? ⟨w.heap.size, 1, none⟩ = some (.slice ao2 mu cap2) ∧ W.cell? ⟨w.heap.size, 2, none⟩ = some (.int .i64 want) from fun W hb => by
    have h := X0.out.below hb
    exact ⟨h.cell 0, h.cell 1, h.cell 2⟩)
  have HROOT := Lib.hid (show ∀ W, Below w.heap.size w W → Strs (fun b => b < w.heap.size) W (.slice ao m cap) roots from fun W hb => HJ.out.roots.below hb)
  have HUSES := Lib.hid (show ∀ W, Below w.heap.size w W → Uses (fun b => b < w.heap.size) W (.slice ao2 mu cap2) us from fun W hb => HJ.out.uses.below hb)
  clear d2 d3
  have hm0 : (0 : Int) ≤ (m : Int) := Int.natCast_nonneg _
  have hu0 : (0 : Int) ≤ (mu : Int) := Int.natCast_nonneg _
  have hS3 : ∀ W', Below w3.heap.size w3 W' → W'.cell? ⟨w.heap.size, 0, none⟩ = some (.slice ao m cap) := fun W' hb => (GX.out W' (c3.trans (hb.mono c3.size))).1
  have hS0 := hS3 w3.drew (Below.refl _ w3).drew
  go_wp2_with fail
  refine (fun (h4 : Go.RowKit.Hid ?P4) => ?main4) ?tail4
  case main4 =>
    refine wp_region_held_drew (S := fun W' => W'.cell? ⟨w.heap.size, 0, none⟩ = some (.slice ao m cap)) (by kernel_rfl) hS0 (fun hHeld => ?_)
    refine wpAnyH_take (i := 1) (v := ?_) rfl (by kernel_rfl) (by kernel_rfl) (by kernel_rfl) (fun _ _ _ h => h) (Or.inl ⟨by rfl, ?_⟩) (by assumption) ?_
    rotate_left
    · (intro w hSw; go_simp; try with_reducible rfl)
    simp only [Act.put, List.setIfInBounds_toArray, List.set_cons_zero, List.set_cons_succ]
    refine wpAnyH_take (i := 2) (v := ?_) rfl (by kernel_rfl) (by kernel_rfl) (by kernel_rfl) (fun _ _ _ h => h) (Or.inl ⟨by rfl, ?_⟩) (by assumption) ?_
    rotate_left
    · (intro w hSw; go_simp; try with_reducible rfl)
    simp only [Act.put, List.setIfInBounds_toArray, List.set_cons_zero, List.set_cons_succ]
    refine wpAnyH_take (i := 6) (v := ?_) rfl (by kernel_rfl) (by kernel_rfl) (by kernel_rfl) (fun _ _ _ h => h) (Or.inl ⟨by rfl, ?_⟩) (by assumption) ?_
    rotate_left
    · (intro w hSw; go_simp; try with_reducible rfl)
    simp only [Act.put, List.setIfInBounds_toArray, List.set_cons_zero, List.set_cons_succ]
    refine wpAnyH_take (i := 7) (v := ?_) rfl (by kernel_rfl) (by kernel_rfl) (by kernel_rfl) (fun _ _ _ h => h) (Or.inl ⟨by rfl, ?_⟩) (by assumption) ?_
    rotate_left
    · (intro w hSw; go_simp; try with_reducible rfl)
    simp only [Act.put, List.setIfInBounds_toArray, List.set_cons_zero, List.set_cons_succ]
    refine wpAnyH_take (i := 8) (v := ?_) rfl (by kernel_rfl) (by kernel_rfl) (by kernel_rfl) (fun _ _ _ h => h) (Or.inl ⟨by rfl, ?_⟩) (by assumption) ?_
    rotate_left
    · (intro w hSw; go_simp; try with_reducible rfl)
    simp only [Act.put, List.setIfInBounds_toArray, List.set_cons_zero, List.set_cons_succ]
    refine wpAnyH_ready (rs := [0, 4]) (by kernel_rfl) (by simp) ?_
    refine (AllReadyH.cons rfl (fun K hK => ?armA) (AllReadyH.cons rfl (fun K hK => ?armB) AllReadyH.nil))
    case armA =>
      go_simp
      change K _ ((w3.drew).alloc (.cells #[] 9))
      obtain ⟨WA, hWA⟩ : ∃ W, (w3.drew).alloc (.cells #[] 9) = W := ⟨_, rfl⟩
      have bA : Below w3.heap.size w3 WA := by rw [← hWA]; exact ((Below.refl _ w3).drew).alloc (by first | exact Nat.le_refl _ | exact ((Below.refl _ w3).drew).size) _
      have hownA : WA.ownsRow w3.heap.size 9 1 (.slice (some ⟨w3.heap.size, 0, none⟩) 0 0) 0 [] := by rw [← hWA]; exact World.ownsRow_lit w3.drew #[] 0 (Nat.le_refl _) (by unfold maxLen; omega) rfl
      have hz0 : w3.heap.size ≤ w3.heap.size := Nat.le_refl _
      rw [hWA]
      refine hK.out _ _ (hS3 WA bA) (fun hHeld => ?_)
      clear hK K
      refine wpAnyH_ready (rs := [3, 4]) (by kernel_rfl) (by simp) ?_
      refine (AllReadyH.cons rfl (fun K hK => ?armC) (AllReadyH.cons rfl (fun K hK => ?armD) AllReadyH.nil))
      case armC =>
        obtain ⟨v35, WC, hrun3, hown3, hg3⟩ := app_texts (w := WA) (B := w3.heap.size) hownA (HROOT.out WA (b0.trans ((c3.trans (bA.mono c3.size)).mono b0.size))) HCR.out (by rw [HM.out]; omega) bA.size
        rw [HM.out, Nat.zero_add, List.nil_append] at hown3
        have bC : Below w3.heap.size w3 WC := bA.grown hg3 bA.size (fun k e => by cases e; exact hz0)
        refine step_append_own rfl _ _ 27 rfl _ _ _ _ rfl rfl hrun3 ?_
        refine hK.out _ _ (hS3 WC bC) (fun hHeld => ?_)
        clear hK K
        refine wpAnyH_ready (rs := [4]) (by kernel_rfl) (by simp) ?_
        refine (AllReadyH.cons rfl (fun K hK => ?_) AllReadyH.nil)
        go_simp
        change K _ (WC.alloc (.cells #[.string gap, .string gap] 9))
        obtain ⟨WE, hWE⟩ : ∃ W, WC.alloc (.cells #[.string gap, .string gap] 9) = W := ⟨_, rfl⟩
        have bE : Below w3.heap.size w3 WE := by rw [← hWE]; exact bC.alloc (by first | exact Nat.le_refl _ | exact bC.size) _
        have hxE : Bx WE WC.heap.size #[.string gap, .string gap] 9 := by rw [← hWE]; exact Bx.new WC _ _
        have hown3 := hown3.alloc (.cells #[.string gap, .string gap] 9)
        rw [hWE] at hown3
        rw [hWE]
        refine hK.out _ _ (hS3 WE bE) (fun hHeld => ?_)
        clear hK K
        refine wpAnyH_ready (rs := [5]) (by kernel_rfl) (by simp) ?_
        refine (AllReadyH.cons rfl (fun K hK => ?_) AllReadyH.nil)
        obtain ⟨g4, k4, W4, hrun5, hown5, hg5, hk5⟩ := fin4 (w := WE) hown3 hxE (by omega) bE.size
        have b4 : Below w3.heap.size w3 W4 := bE.grown hg5 bE.size (fun k e => (hown3.lt k e).1)
        refine step_append_own rfl _ _ 27 rfl _ _ _ _ rfl rfl hrun5 ?_
        refine hK.out _ _ (hS3 W4 b4) (fun hHeld => ?_)
        clear hK K
        have hmk : (m : Int) ≤ (k4 : Int) := by omega
        refine wpAnyH_take (i := 9) (v := ?_) rfl (by kernel_rfl) (by kernel_rfl) (by kernel_rfl) (fun _ _ _ h => h) (Or.inl ⟨by rfl, ?_⟩) (by assumption) ?_
        rotate_left
        · (intro w hSw; go_simp; try with_reducible rfl)
        simp only [Act.put, List.setIfInBounds_toArray, List.set_cons_zero, List.set_cons_succ]
        refine wpAnyH_take (i := 10) (v := ?_) rfl (by kernel_rfl) (by kernel_rfl) (by kernel_rfl) (fun _ _ _ h => h) (Or.inl ⟨by rfl, ?_⟩) (by assumption) ?_
        rotate_left
        · (intro w hSw; go_simp; try with_reducible rfl)
        simp only [Act.put, List.setIfInBounds_toArray, List.set_cons_zero, List.set_cons_succ]
        refine wpAnyH_done (by kernel_rfl) ?_ _
        clear hHeld
        simp only [List.getElem_toArray, List.getElem_cons_zero, List.getElem_cons_succ, List.set_cons_zero, List.set_cons_succ, List.setIfInBounds_toArray]
        have HF := Lib.hid (show Below w3.heap.size w3 W4 ∧ W4.ownsRow w3.heap.size 9 1 (.slice (some ⟨g4, 0, none⟩) (m + 2) k4) (m + 2) (roots.map .string ++ [.string gap, .string gap]) ∧ m + 2 ≤ k4 from ⟨b4, hown5, hk5⟩)
        revert HF
        generalize Value.slice (some ⟨w3.heap.size, 0, none⟩) 0 0 = z32
        generalize Value.slice (some ⟨WC.heap.size, 0, none⟩) 2 2 = z36
        generalize v35 = y35
        generalize g4 = yg
        generalize k4 = yk
        generalize W4 = yW
        revert yW yk yg y35 z36 z32
        exact h4.out
      case armD =>
        go_simp
        change K _ (WA.alloc (.cells #[.string gap, .string gap] 9))
        obtain ⟨WD, hWD⟩ : ∃ W, WA.alloc (.cells #[.string gap, .string gap] 9) = W := ⟨_, rfl⟩
        have bD : Below w3.heap.size w3 WD := by rw [← hWD]; exact bA.alloc (by first | exact Nat.le_refl _ | exact bA.size) _
        have hxD : Bx WD WA.heap.size #[.string gap, .string gap] 9 := by rw [← hWD]; exact Bx.new WA _ _
        have hownD := hownA.alloc (.cells #[.string gap, .string gap] 9)
        rw [hWD] at hownD
        have hsA := Lib.hid (show WA.heap.size = w3.heap.size + 1 by rw [← hWA]; simp)
        rw [hWD]
        refine hK.out _ _ (hS3 WD bD) (fun hHeld => ?_)
        clear hK K
        refine wpAnyH_ready (rs := [3]) (by kernel_rfl) (by simp) ?_
        refine (AllReadyH.cons rfl (fun K hK => ?_) AllReadyH.nil)
        obtain ⟨v35, WE, hrun3, hown3, hg3⟩ := app_texts (w := WD) (B := w3.heap.size) hownD (HROOT.out WD (b0.trans ((c3.trans (bD.mono c3.size)).mono b0.size))) HCR.out (by rw [HM.out]; omega) bD.size
        rw [HM.out, Nat.zero_add, List.nil_append] at hown3
        have bE : Below w3.heap.size w3 WE := bD.grown hg3 bD.size (fun k e => by cases e; exact hz0)
        refine step_append_own rfl _ _ 27 rfl _ _ _ _ rfl rfl hrun3 ?_
        refine hK.out _ _ (hS3 WE bE) (fun hHeld => ?_)
        clear hK K
        have hxE : Bx WE WA.heap.size #[.string gap, .string gap] 9 := (hg3.block WA.heap.size hxD.lt (fun e => by have h : WA.heap.size = w3.heap.size := Option.some.inj e; have h2 := hsA.out; omega)).trans hxD
        refine wpAnyH_ready (rs := [5]) (by kernel_rfl) (by simp) ?_
        refine (AllReadyH.cons rfl (fun K hK => ?_) AllReadyH.nil)
        obtain ⟨g4, k4, W4, hrun5, hown5, hg5, hk5⟩ := fin4 (w := WE) hown3 hxE (by omega) bE.size
        have b4 : Below w3.heap.size w3 W4 := bE.grown hg5 bE.size (fun k e => (hown3.lt k e).1)
        refine step_append_own rfl _ _ 27 rfl _ _ _ _ rfl rfl hrun5 ?_
        refine hK.out _ _ (hS3 W4 b4) (fun hHeld => ?_)
        clear hK K
        have hmk : (m : Int) ≤ (k4 : Int) := by omega
        refine wpAnyH_take (i := 9) (v := ?_) rfl (by kernel_rfl) (by kernel_rfl) (by kernel_rfl) (fun _ _ _ h => h) (Or.inl ⟨by rfl, ?_⟩) (by assumption) ?_
        rotate_left
        · (intro w hSw; go_simp; try with_reducible rfl)
        simp only [Act.put, List.setIfInBounds_toArray, List.set_cons_zero, List.set_cons_succ]
        refine wpAnyH_take (i := 10) (v := ?_) rfl (by kernel_rfl) (by kernel_rfl) (by kernel_rfl) (fun _ _ _ h => h) (Or.inl ⟨by rfl, ?_⟩) (by assumption) ?_
        rotate_left
        · (intro w hSw; go_simp; try with_reducible rfl)
        simp only [Act.put, List.setIfInBounds_toArray, List.set_cons_zero, List.set_cons_succ]
        refine wpAnyH_done (by kernel_rfl) ?_ _
        clear hHeld
        simp only [List.getElem_toArray, List.getElem_cons_zero, List.getElem_cons_succ, List.set_cons_zero, List.set_cons_succ, List.setIfInBounds_toArray]
        have HF := Lib.hid (show Below w3.heap.size w3 W4 ∧ W4.ownsRow w3.heap.size 9 1 (.slice (some ⟨g4, 0, none⟩) (m + 2) k4) (m + 2) (roots.map .string ++ [.string gap, .string gap]) ∧ m + 2 ≤ k4 from ⟨b4, hown5, hk5⟩)
        revert HF
        generalize Value.slice (some ⟨w3.heap.size, 0, none⟩) 0 0 = z32
        generalize Value.slice (some ⟨WA.heap.size, 0, none⟩) 2 2 = z36
        generalize v35 = y35
        generalize g4 = yg
        generalize k4 = yk
        generalize W4 = yW
        revert yW yk yg y35 z36 z32
        exact h4.out
    case armB =>
      go_simp
      change K _ ((w3.drew).alloc (.cells #[.string gap, .string gap] 9))
      obtain ⟨WB, hWB⟩ : ∃ W, (w3.drew).alloc (.cells #[.string gap, .string gap] 9) = W := ⟨_, rfl⟩
      have bB : Below w3.heap.size w3 WB := by rw [← hWB]; exact ((Below.refl _ w3).drew).alloc (by first | exact Nat.le_refl _ | exact ((Below.refl _ w3).drew).size) _
      have hxB : Bx WB w3.heap.size #[.string gap, .string gap] 9 := by rw [← hWB]; exact Bx.new w3.drew _ _
      have hsB := Lib.hid (show WB.heap.size = w3.heap.size + 1 by rw [← hWB]; simp)
      rw [hWB]
      refine hK.out _ _ (hS3 WB bB) (fun hHeld => ?_)
      clear hK K
      refine wpAnyH_ready (rs := [0]) (by kernel_rfl) (by simp) ?_
      refine (AllReadyH.cons rfl (fun K hK => ?_) AllReadyH.nil)
      go_simp
      change K _ (WB.alloc (.cells #[] 9))
      obtain ⟨WD, hWD⟩ : ∃ W, WB.alloc (.cells #[] 9) = W := ⟨_, rfl⟩
      have bD : Below w3.heap.size w3 WD := by rw [← hWD]; exact bB.alloc (by first | exact Nat.le_refl _ | exact bB.size) _
      have hxD : Bx WD w3.heap.size #[.string gap, .string gap] 9 := by rw [← hWD]; exact hxB.alloc _
      have hownD : WD.ownsRow w3.heap.size 9 1 (.slice (some ⟨WB.heap.size, 0, none⟩) 0 0) 0 [] := by rw [← hWD]; exact World.ownsRow_lit WB #[] 0 bB.size (by unfold maxLen; omega) rfl
      have hz0 : w3.heap.size ≤ WB.heap.size := bB.size
      rw [hWD]
      refine hK.out _ _ (hS3 WD bD) (fun hHeld => ?_)
      clear hK K
      refine wpAnyH_ready (rs := [3]) (by kernel_rfl) (by simp) ?_
      refine (AllReadyH.cons rfl (fun K hK => ?_) AllReadyH.nil)
      obtain ⟨v35, WE, hrun3, hown3, hg3⟩ := app_texts (w := WD) (B := w3.heap.size) hownD (HROOT.out WD (b0.trans ((c3.trans (bD.mono c3.size)).mono b0.size))) HCR.out (by rw [HM.out]; omega) bD.size
      rw [HM.out, Nat.zero_add, List.nil_append] at hown3
      have bE : Below w3.heap.size w3 WE := bD.grown hg3 bD.size (fun k e => by cases e; exact hz0)
      refine step_append_own rfl _ _ 27 rfl _ _ _ _ rfl rfl hrun3 ?_
      refine hK.out _ _ (hS3 WE bE) (fun hHeld => ?_)
      clear hK K
      have hxE : Bx WE w3.heap.size #[.string gap, .string gap] 9 := (hg3.block w3.heap.size hxD.lt (fun e => by have h : w3.heap.size = WB.heap.size := Option.some.inj e; have h2 := hsB.out; omega)).trans hxD
      refine wpAnyH_ready (rs := [5]) (by kernel_rfl) (by simp) ?_
      refine (AllReadyH.cons rfl (fun K hK => ?_) AllReadyH.nil)
      obtain ⟨g4, k4, W4, hrun5, hown5, hg5, hk5⟩ := fin4 (w := WE) hown3 hxE (by omega) bE.size
      have b4 : Below w3.heap.size w3 W4 := bE.grown hg5 bE.size (fun k e => (hown3.lt k e).1)
      refine step_append_own rfl _ _ 27 rfl _ _ _ _ rfl rfl hrun5 ?_
      refine hK.out _ _ (hS3 W4 b4) (fun hHeld => ?_)
      clear hK K
      have hmk : (m : Int) ≤ (k4 : Int) := by omega
      refine wpAnyH_take (i := 9) (v := ?_) rfl (by kernel_rfl) (by kernel_rfl) (by kernel_rfl) (fun _ _ _ h => h) (Or.inl ⟨by rfl, ?_⟩) (by assumption) ?_
      rotate_left
      · (intro w hSw; go_simp; try with_reducible rfl)
      simp only [Act.put, List.setIfInBounds_toArray, List.set_cons_zero, List.set_cons_succ]
      refine wpAnyH_take (i := 10) (v := ?_) rfl (by kernel_rfl) (by kernel_rfl) (by kernel_rfl) (fun _ _ _ h => h) (Or.inl ⟨by rfl, ?_⟩) (by assumption) ?_
      rotate_left
      · (intro w hSw; go_simp; try with_reducible rfl)
      simp only [Act.put, List.setIfInBounds_toArray, List.set_cons_zero, List.set_cons_succ]
      refine wpAnyH_done (by kernel_rfl) ?_ _
      clear hHeld
      simp only [List.getElem_toArray, List.getElem_cons_zero, List.getElem_cons_succ, List.set_cons_zero, List.set_cons_succ, List.setIfInBounds_toArray]
      have HF := Lib.hid (show Below w3.heap.size w3 W4 ∧ W4.ownsRow w3.heap.size 9 1 (.slice (some ⟨g4, 0, none⟩) (m + 2) k4) (m + 2) (roots.map .string ++ [.string gap, .string gap]) ∧ m + 2 ≤ k4 from ⟨b4, hown5, hk5⟩)
      revert HF
      generalize Value.slice (some ⟨WB.heap.size, 0, none⟩) 0 0 = z32
      generalize Value.slice (some ⟨w3.heap.size, 0, none⟩) 2 2 = z36
      generalize v35 = y35
      generalize g4 = yg
      generalize k4 = yk
      generalize W4 = yW
      revert yW yk yg y35 z36 z32
      exact h4.out
  case tail4 =>
    refine Lib.hid ?_
    intro z32 z36 y35 g4 k4 w4 HF
    clear hS3 hS0
    have c4 := c3.trans (HF.out.1.mono c3.size)
    have z4 : w3.heap.size ≤ w4.heap.size := HF.out.1.size
    have hS5 : ∀ W', Below w4.heap.size w4 W' → W'.cell? ⟨w.heap.size, 1, none⟩ = some (.slice ao2 mu cap2) := fun W' hb => (GX.out W' (c4.trans (hb.mono c4.size))).2.1
    have hS0 := hS5 w4.drew (Below.refl _ w4).drew
    go_wp2_with fail
    refine (fun (h5 : Go.RowKit.Hid ?P5) => ?main5) ?tail5
    case main5 =>
      refine wp_region_held_drew (S := fun W' => W'.cell? ⟨w.heap.size, 1, none⟩ = some (.slice ao2 mu cap2)) (by kernel_rfl) hS0 (fun hHeld => ?_)
      refine wpAnyH_take (i := 1) (v := ?_) rfl (by kernel_rfl) (by kernel_rfl) (by kernel_rfl) (fun _ _ _ h => h) (Or.inl ⟨by rfl, ?_⟩) (by assumption) ?_
      rotate_left
      · (intro w hSw; go_simp; try with_reducible rfl)
      simp only [Act.put, List.setIfInBounds_toArray, List.set_cons_zero, List.set_cons_succ]
      refine wpAnyH_take (i := 2) (v := ?_) rfl (by kernel_rfl) (by kernel_rfl) (by kernel_rfl) (fun _ _ _ h => h) (Or.inl ⟨by rfl, ?_⟩) (by assumption) ?_
      rotate_left
      · (intro w hSw; go_simp; try with_reducible rfl)
      simp only [Act.put, List.setIfInBounds_toArray, List.set_cons_zero, List.set_cons_succ]
      refine wpAnyH_take (i := 4) (v := ?_) rfl (by kernel_rfl) (by kernel_rfl) (by kernel_rfl) (fun _ _ _ h => h) (Or.inl ⟨by rfl, ?_⟩) (by assumption) ?_
      rotate_left
      · (intro w hSw; go_simp; try with_reducible rfl)
      simp only [Act.put, List.setIfInBounds_toArray, List.set_cons_zero, List.set_cons_succ]
      refine wpAnyH_take (i := 7) (v := ?_) rfl (by kernel_rfl) (by kernel_rfl) (by kernel_rfl) (fun _ _ _ h => h) (Or.inl ⟨by rfl, ?_⟩) (by assumption) ?_
      rotate_left
      · (intro w hSw; go_simp; try with_reducible rfl)
      simp only [Act.put, List.setIfInBounds_toArray, List.set_cons_zero, List.set_cons_succ]
      refine wpAnyH_take (i := 8) (v := ?_) rfl (by kernel_rfl) (by kernel_rfl) (by kernel_rfl) (fun _ _ _ h => h) (Or.inl ⟨by rfl, ?_⟩) (by assumption) ?_
      rotate_left
      · (intro w hSw; go_simp; try with_reducible rfl)
      simp only [Act.put, List.setIfInBounds_toArray, List.set_cons_zero, List.set_cons_succ]
      refine wpAnyH_take (i := 9) (v := ?_) rfl (by kernel_rfl) (by kernel_rfl) (by kernel_rfl) (fun _ _ _ h => h) (Or.inl ⟨by rfl, ?_⟩) (by assumption) ?_
      rotate_left
      · (intro w hSw; go_simp; try with_reducible rfl)
      simp only [Act.put, List.setIfInBounds_toArray, List.set_cons_zero, List.set_cons_succ]
      refine wpAnyH_ready (rs := [0, 5]) (by kernel_rfl) (by simp) ?_
      refine (AllReadyH.cons rfl (fun K hK => ?arm5A) (AllReadyH.cons rfl (fun K hK => ?arm5B) AllReadyH.nil))
      case arm5A =>
        go_simp
        change K _ ((w4.drew).alloc (.cells #[] 81))
        obtain ⟨WA, hWA⟩ : ∃ W, (w4.drew).alloc (.cells #[] 81) = W := ⟨_, rfl⟩
        have bA : Below w4.heap.size w4 WA := by rw [← hWA]; exact ((Below.refl _ w4).drew).alloc (by first | exact Nat.le_refl _ | exact ((Below.refl _ w4).drew).size) _
        have hownA : WA.ownsRow w4.heap.size 81 2 (.slice (some ⟨w4.heap.size, 0, none⟩) 0 0) 0 [] := by rw [← hWA]; exact World.ownsRow_lit w4.drew #[] 0 (Nat.le_refl _) (by unfold maxLen; omega) rfl
        have hz0 : w4.heap.size ≤ w4.heap.size := Nat.le_refl _
        have hsA := Lib.hid (show WA.heap.size = w4.heap.size + 1 by rw [← hWA]; simp)
        rw [hWA]
        refine hK.out _ _ (hS5 WA bA) (fun hHeld => ?_)
        clear hK K
        refine wpAnyH_ready (rs := [3, 5]) (by kernel_rfl) (by simp) ?_
        refine (AllReadyH.cons rfl (fun K hK => ?arm5C) (AllReadyH.cons rfl (fun K hK => ?arm5D) AllReadyH.nil))
        case arm5C =>
          obtain ⟨v35, WC, hrun3, hown3, hg3⟩ := app_uses (w := WA) (B := w4.heap.size) hownA (HUSES.out WA (b0.trans ((c4.trans (bA.mono c4.size)).mono b0.size))) HCU.out (by rw [HMU.out]; omega) bA.size
          rw [HMU.out, Nat.zero_add, List.nil_append] at hown3
          have bC : Below w4.heap.size w4 WC := bA.grown hg3 bA.size (fun k e => by cases e; exact hz0)
          refine step_append_own rfl _ _ 72 rfl _ _ _ _ rfl rfl hrun3 ?_
          refine hK.out _ _ (hS5 WC bC) (fun hHeld => ?_)
          clear hK K
          refine wpAnyH_ready (rs := [5]) (by kernel_rfl) (by simp) ?_
          refine (AllReadyH.cons rfl (fun K hK => ?_) AllReadyH.nil)
          go_simp
          change K _ (WC.alloc (.cells #[.string gap, .int .i64 0] 81))
          obtain ⟨WE, hWE⟩ : ∃ W, WC.alloc (.cells #[.string gap, .int .i64 0] 81) = W := ⟨_, rfl⟩
          have bE : Below w4.heap.size w4 WE := by rw [← hWE]; exact bC.alloc (by first | exact Nat.le_refl _ | exact bC.size) _
          have hxE : Bx WE WC.heap.size #[.string gap, .int .i64 0] 81 := by rw [← hWE]; exact Bx.new WC _ _
          have hown3 := hown3.alloc (.cells #[.string gap, .int .i64 0] 81)
          rw [hWE] at hown3
          rw [hWE]
          refine hK.out _ _ (hS5 WE bE) (fun hHeld => ?_)
          clear hK K
          refine wpAnyH_ready (rs := [6]) (by kernel_rfl) (by simp) ?_
          refine (AllReadyH.cons rfl (fun K hK => ?_) AllReadyH.nil)
          obtain ⟨g5, k5, W5, hrun5, hown5, hg5, hk5⟩ := fin5 (w := WE) hown3 hxE (by omega) bE.size
          have b5 : Below w4.heap.size w4 W5 := bE.grown hg5 bE.size (fun k e => (hown3.lt k e).1)
          refine step_append_own rfl _ _ 72 rfl _ _ _ _ rfl rfl hrun5 ?_
          refine hK.out _ _ (hS5 W5 b5) (fun hHeld => ?_)
          clear hK K
          have hmk : (mu : Int) ≤ (k5 : Int) := by omega
          refine wpAnyH_take (i := 10) (v := ?_) rfl (by kernel_rfl) (by kernel_rfl) (by kernel_rfl) (fun _ _ _ h => h) (Or.inl ⟨by rfl, ?_⟩) (by assumption) ?_
          rotate_left
          · (intro w hSw; go_simp; try with_reducible rfl)
          simp only [Act.put, List.setIfInBounds_toArray, List.set_cons_zero, List.set_cons_succ]
          refine wpAnyH_take (i := 11) (v := ?_) rfl (by kernel_rfl) (by kernel_rfl) (by kernel_rfl) (fun _ _ _ h => h) (Or.inl ⟨by rfl, ?_⟩) (by assumption) ?_
          rotate_left
          · (intro w hSw; go_simp; try with_reducible rfl)
          simp only [Act.put, List.setIfInBounds_toArray, List.set_cons_zero, List.set_cons_succ]
          refine wpAnyH_done (by kernel_rfl) ?_ _
          clear hHeld
          simp only [List.getElem_toArray, List.getElem_cons_zero, List.getElem_cons_succ, List.set_cons_zero, List.set_cons_succ, List.setIfInBounds_toArray]
          have HF := Lib.hid (show Below w4.heap.size w4 W5 ∧ W5.ownsRow w4.heap.size 81 2 (.slice (some ⟨g5, 0, none⟩) (mu + 1) k5) (mu + 1) (flatU us ++ [.string gap, .int .i64 0]) ∧ mu + 1 ≤ k5 from ⟨b5, hown5, hk5⟩)
          revert HF
          generalize Value.slice (some ⟨w4.heap.size, 0, none⟩) 0 0 = z42
          generalize Value.slice (some ⟨WC.heap.size, 0, none⟩) 1 1 = z47
          generalize v35 = y45
          generalize g5 = yg
          generalize k5 = yk
          generalize W5 = yW
          revert yW yk yg y45 z47 z42
          exact h5.out
        case arm5D =>
          go_simp
          change K _ (WA.alloc (.cells #[.string gap, .int .i64 0] 81))
          obtain ⟨WD, hWD⟩ : ∃ W, WA.alloc (.cells #[.string gap, .int .i64 0] 81) = W := ⟨_, rfl⟩
          have bD : Below w4.heap.size w4 WD := by rw [← hWD]; exact bA.alloc (by first | exact Nat.le_refl _ | exact bA.size) _
          have hxD : Bx WD WA.heap.size #[.string gap, .int .i64 0] 81 := by rw [← hWD]; exact Bx.new WA _ _
          have hownD := hownA.alloc (.cells #[.string gap, .int .i64 0] 81)
          rw [hWD] at hownD
          rw [hWD]
          refine hK.out _ _ (hS5 WD bD) (fun hHeld => ?_)
          clear hK K
          refine wpAnyH_ready (rs := [3]) (by kernel_rfl) (by simp) ?_
          refine (AllReadyH.cons rfl (fun K hK => ?_) AllReadyH.nil)
          obtain ⟨v35, WE, hrun3, hown3, hg3⟩ := app_uses (w := WD) (B := w4.heap.size) hownD (HUSES.out WD (b0.trans ((c4.trans (bD.mono c4.size)).mono b0.size))) HCU.out (by rw [HMU.out]; omega) bD.size
          rw [HMU.out, Nat.zero_add, List.nil_append] at hown3
          have bE : Below w4.heap.size w4 WE := bD.grown hg3 bD.size (fun k e => by cases e; exact hz0)
          refine step_append_own rfl _ _ 72 rfl _ _ _ _ rfl rfl hrun3 ?_
          refine hK.out _ _ (hS5 WE bE) (fun hHeld => ?_)
          clear hK K
          have hxE : Bx WE WA.heap.size #[.string gap, .int .i64 0] 81 := (hg3.block WA.heap.size hxD.lt (fun e => by have h : WA.heap.size = w4.heap.size := Option.some.inj e; have h2 := hsA.out; omega)).trans hxD
          refine wpAnyH_ready (rs := [6]) (by kernel_rfl) (by simp) ?_
          refine (AllReadyH.cons rfl (fun K hK => ?_) AllReadyH.nil)
          obtain ⟨g5, k5, W5, hrun5, hown5, hg5, hk5⟩ := fin5 (w := WE) hown3 hxE (by omega) bE.size
          have b5 : Below w4.heap.size w4 W5 := bE.grown hg5 bE.size (fun k e => (hown3.lt k e).1)
          refine step_append_own rfl _ _ 72 rfl _ _ _ _ rfl rfl hrun5 ?_
          refine hK.out _ _ (hS5 W5 b5) (fun hHeld => ?_)
          clear hK K
          have hmk : (mu : Int) ≤ (k5 : Int) := by omega
          refine wpAnyH_take (i := 10) (v := ?_) rfl (by kernel_rfl) (by kernel_rfl) (by kernel_rfl) (fun _ _ _ h => h) (Or.inl ⟨by rfl, ?_⟩) (by assumption) ?_
          rotate_left
          · (intro w hSw; go_simp; try with_reducible rfl)
          simp only [Act.put, List.setIfInBounds_toArray, List.set_cons_zero, List.set_cons_succ]
          refine wpAnyH_take (i := 11) (v := ?_) rfl (by kernel_rfl) (by kernel_rfl) (by kernel_rfl) (fun _ _ _ h => h) (Or.inl ⟨by rfl, ?_⟩) (by assumption) ?_
          rotate_left
          · (intro w hSw; go_simp; try with_reducible rfl)
          simp only [Act.put, List.setIfInBounds_toArray, List.set_cons_zero, List.set_cons_succ]
          refine wpAnyH_done (by kernel_rfl) ?_ _
          clear hHeld
          simp only [List.getElem_toArray, List.getElem_cons_zero, List.getElem_cons_succ, List.set_cons_zero, List.set_cons_succ, List.setIfInBounds_toArray]
          have HF := Lib.hid (show Below w4.heap.size w4 W5 ∧ W5.ownsRow w4.heap.size 81 2 (.slice (some ⟨g5, 0, none⟩) (mu + 1) k5) (mu + 1) (flatU us ++ [.string gap, .int .i64 0]) ∧ mu + 1 ≤ k5 from ⟨b5, hown5, hk5⟩)
          revert HF
          generalize Value.slice (some ⟨w4.heap.size, 0, none⟩) 0 0 = z42
          generalize Value.slice (some ⟨WA.heap.size, 0, none⟩) 1 1 = z47
          generalize v35 = y45
          generalize g5 = yg
          generalize k5 = yk
          generalize W5 = yW
          revert yW yk yg y45 z47 z42
          exact h5.out
      case arm5B =>
        go_simp
        change K _ ((w4.drew).alloc (.cells #[.string gap, .int .i64 0] 81))
        obtain ⟨WB, hWB⟩ : ∃ W, (w4.drew).alloc (.cells #[.string gap, .int .i64 0] 81) = W := ⟨_, rfl⟩
        have bB : Below w4.heap.size w4 WB := by rw [← hWB]; exact ((Below.refl _ w4).drew).alloc (by first | exact Nat.le_refl _ | exact ((Below.refl _ w4).drew).size) _
        have hxB : Bx WB w4.heap.size #[.string gap, .int .i64 0] 81 := by rw [← hWB]; exact Bx.new w4.drew _ _
        have hsB := Lib.hid (show WB.heap.size = w4.heap.size + 1 by rw [← hWB]; simp)
        rw [hWB]
        refine hK.out _ _ (hS5 WB bB) (fun hHeld => ?_)
        clear hK K
        refine wpAnyH_ready (rs := [0]) (by kernel_rfl) (by simp) ?_
        refine (AllReadyH.cons rfl (fun K hK => ?_) AllReadyH.nil)
        go_simp
        change K _ (WB.alloc (.cells #[] 81))
        obtain ⟨WD, hWD⟩ : ∃ W, WB.alloc (.cells #[] 81) = W := ⟨_, rfl⟩
        have bD : Below w4.heap.size w4 WD := by rw [← hWD]; exact bB.alloc (by first | exact Nat.le_refl _ | exact bB.size) _
        have hxD : Bx WD w4.heap.size #[.string gap, .int .i64 0] 81 := by rw [← hWD]; exact hxB.alloc _
        have hownD : WD.ownsRow w4.heap.size 81 2 (.slice (some ⟨WB.heap.size, 0, none⟩) 0 0) 0 [] := by rw [← hWD]; exact World.ownsRow_lit WB #[] 0 bB.size (by unfold maxLen; omega) rfl
        have hz0 : w4.heap.size ≤ WB.heap.size := bB.size
        rw [hWD]
        refine hK.out _ _ (hS5 WD bD) (fun hHeld => ?_)
        clear hK K
        refine wpAnyH_ready (rs := [3]) (by kernel_rfl) (by simp) ?_
        refine (AllReadyH.cons rfl (fun K hK => ?_) AllReadyH.nil)
        obtain ⟨v35, WE, hrun3, hown3, hg3⟩ := app_uses (w := WD) (B := w4.heap.size) hownD (HUSES.out WD (b0.trans ((c4.trans (bD.mono c4.size)).mono b0.size))) HCU.out (by rw [HMU.out]; omega) bD.size
        rw [HMU.out, Nat.zero_add, List.nil_append] at hown3
        have bE : Below w4.heap.size w4 WE := bD.grown hg3 bD.size (fun k e => by cases e; exact hz0)
        refine step_append_own rfl _ _ 72 rfl _ _ _ _ rfl rfl hrun3 ?_
        refine hK.out _ _ (hS5 WE bE) (fun hHeld => ?_)
        clear hK K
        have hxE : Bx WE w4.heap.size #[.string gap, .int .i64 0] 81 := (hg3.block w4.heap.size hxD.lt (fun e => by have h : w4.heap.size = WB.heap.size := Option.some.inj e; have h2 := hsB.out; omega)).trans hxD
        refine wpAnyH_ready (rs := [6]) (by kernel_rfl) (by simp) ?_
        refine (AllReadyH.cons rfl (fun K hK => ?_) AllReadyH.nil)
        obtain ⟨g5, k5, W5, hrun5, hown5, hg5, hk5⟩ := fin5 (w := WE) hown3 hxE (by omega) bE.size
        have b5 : Below w4.heap.size w4 W5 := bE.grown hg5 bE.size (fun k e => (hown3.lt k e).1)
        refine step_append_own rfl _ _ 72 rfl _ _ _ _ rfl rfl hrun5 ?_
        refine hK.out _ _ (hS5 W5 b5) (fun hHeld => ?_)
        clear hK K
        have hmk : (mu : Int) ≤ (k5 : Int) := by omega
        refine wpAnyH_take (i := 10) (v := ?_) rfl (by kernel_rfl) (by kernel_rfl) (by kernel_rfl) (fun _ _ _ h => h) (Or.inl ⟨by rfl, ?_⟩) (by assumption) ?_
        rotate_left
        · (intro w hSw; go_simp; try with_reducible rfl)
        simp only [Act.put, List.setIfInBounds_toArray, List.set_cons_zero, List.set_cons_succ]
        refine wpAnyH_take (i := 11) (v := ?_) rfl (by kernel_rfl) (by kernel_rfl) (by kernel_rfl) (fun _ _ _ h => h) (Or.inl ⟨by rfl, ?_⟩) (by assumption) ?_
        rotate_left
        · (intro w hSw; go_simp; try with_reducible rfl)
        simp only [Act.put, List.setIfInBounds_toArray, List.set_cons_zero, List.set_cons_succ]
        refine wpAnyH_done (by kernel_rfl) ?_ _
        clear hHeld
        simp only [List.getElem_toArray, List.getElem_cons_zero, List.getElem_cons_succ, List.set_cons_zero, List.set_cons_succ, List.setIfInBounds_toArray]
        have HF := Lib.hid (show Below w4.heap.size w4 W5 ∧ W5.ownsRow w4.heap.size 81 2 (.slice (some ⟨g5, 0, none⟩) (mu + 1) k5) (mu + 1) (flatU us ++ [.string gap, .int .i64 0]) ∧ mu + 1 ≤ k5 from ⟨b5, hown5, hk5⟩)
        revert HF
        generalize Value.slice (some ⟨WB.heap.size, 0, none⟩) 0 0 = z42
        generalize Value.slice (some ⟨w4.heap.size, 0, none⟩) 1 1 = z47
        generalize v35 = y45
        generalize g5 = yg
        generalize k5 = yk
        generalize W5 = yW
        revert yW yk yg y45 z47 z42
        exact h5.out
    case tail5 =>
      refine Lib.hid ?_
      intro z42 z47 y45 g5 k5 w5 HU5
      clear hS5 hS0
      have c5 := c4.trans (HU5.out.1.mono c4.size)
      have z5 : w3.heap.size ≤ w5.heap.size := Nat.le_trans z4 HU5.out.1.size
      have hk4 : m + 2 ≤ k4 := HF.out.2.2
      have hk5 : mu + 1 ≤ k5 := HU5.out.2.2
      have RO5 := Lib.hid (Copy.own_below HF.out.2.1 HU5.out.1)
      have RU5 := Lib.hid HU5.out.2.1
      have HRW := Lib.hid (show ∀ W : World, W.ownsRow w3.heap.size 9 1 (.slice (some ⟨g4, 0, none⟩) (m + 2) k4) (m + 2) (roots.map .string ++ [.string gap, .string gap]) → W.cell? ⟨g4, m, none⟩ = some (.string ⟨#[103, 97, 112]⟩) ∧ Strs (fun b => b < W.heap.size) W (.slice (some ⟨g4, 0, none⟩) m k4) roots from fun W h => by
        have hc : ∀ j, j < m + 2 → W.cell? ⟨g4, j, none⟩ = (roots.map Value.string ++ [Value.string gap, Value.string gap])[j]? := fun j hj => h.cellAt j (by omega)
        have hcap : k4 ≤ maxLen := by
          rcases h.2 with ⟨h', _⟩ | ⟨g', cap', cur, h', _, _, _, hcm, _⟩
          · cases h'
          · cases h'; exact hcm
        refine ⟨?_, ⟨some ⟨g4, 0, none⟩, k4, by rw [HM.out], by rw [HM.out]; omega, hcap, .inr ⟨g4, 0, rfl, (h.lt g4 rfl).2, fun j hj => ?_⟩⟩⟩
        · rw [hc m (by omega), List.getElem?_append_right (by rw [List.length_map, HM.out]; exact Nat.le_refl _), List.length_map, HM.out, Nat.sub_self]; rfl
        · rw [Nat.zero_add, hc j (by rw [HM.out] at hj; omega), List.getElem?_append_left (by rw [List.length_map]; exact hj), List.getElem?_map, List.getElem?_eq_getElem hj]; rfl)
      have HUW := Lib.hid (show ∀ W : World, W.ownsRow w4.heap.size 81 2 (.slice (some ⟨g5, 0, none⟩) (mu + 1) k5) (mu + 1) (flatU us ++ [.string gap, .int .i64 0]) → W.cell? ⟨g5, mu * 2, none⟩ = some (.string ⟨#[103, 97, 112]⟩) ∧ (∀ j (h : j < us.length), W.cell? ⟨g5, j * 2, none⟩ = some (.string us[j].1) ∧ W.cell? ⟨g5, j * 2 + 1, none⟩ = some (.int .i64 us[j].2)) ∧ Uses (fun b => b < W.heap.size) W (.slice (some ⟨g5, 0, none⟩) mu k5) us from fun W h => by
        have hc : ∀ j, j < (mu + 1) * 2 → W.cell? ⟨g5, j, none⟩ = (flatU us ++ [Value.string gap, Value.int .i64 0])[j]? := fun j hj => h.cellAt j hj
        have hfl := flatU_length us
        rw [HMU.out] at hfl
        have hcap : k5 ≤ maxLen := by
          rcases h.2 with ⟨h', _⟩ | ⟨g', cap', cur, h', _, _, _, hcm, _⟩
          · cases h'
          · cases h'; exact hcm
        have hcs : ∀ j (h : j < us.length), W.cell? ⟨g5, j * 2, none⟩ = some (.string us[j].1) ∧ W.cell? ⟨g5, j * 2 + 1, none⟩ = some (.int .i64 us[j].2) := fun j hj => by
          have hj2 : j < mu := by rw [HMU.out] at hj; exact hj
          obtain ⟨q1, q2⟩ := flatU_get us j hj
          rw [hc (j * 2) (by omega), hc (j * 2 + 1) (by omega), List.getElem?_append_left (by omega), List.getElem?_append_left (by omega)]
          exact ⟨q1, q2⟩
        refine ⟨?_, hcs, ⟨some ⟨g5, 0, none⟩, k5, by rw [HMU.out], by rw [HMU.out]; omega, hcap, .inr ⟨g5, 0, rfl, (h.lt g5 rfl).2, fun j hj => by rw [Nat.zero_add]; exact hcs j hj⟩⟩⟩
        rw [hc (mu * 2) (by omega), List.getElem?_append_right (by omega), hfl, Nat.sub_self]; rfl)
      have S5 := Lib.hid ((A1.out.below HF.out.1).below HU5.out.1)
      have T5 := Lib.hid ((A2.out.below HF.out.1).below HU5.out.1)
      obtain ⟨g0, g1, g2⟩ := GX.out w5 c5
      go_wp2_with fail
      clear g0 g1 g2
      refine (collectF M1 F1 s1 rs _ roots _ us want w5 S5.out HFIT.out (HRW.out w5 RO5.out).2 (by rw [HM.out]; omega) (HUW.out w5 RU5.out).2.2 (by rw [HMU.out]; omega) HUS.out).mono ?_
      rintro e w6 ⟨f1, v1, N1, hfin1, rfl, hrow1, his1, kp1, hsub1⟩
      have hway1 := fin_way HFIT.out.rise hfin1
      have HF1 := Lib.hid (HFIT.out.way hway1)
      have HFN := Lib.hid hfin1
      have c6 := c5.trans (kp1.below c5.size (fun i hi hm => by have h1 := HM1.out i (.inl hm); have h2 := HZ.out; omega))
      have z6 : w3.heap.size ≤ w6.heap.size := Nat.le_trans z5 kp1.size
      have S6 := Lib.hid his1
      have HN1M := Lib.hid hsub1
      have T6 := Lib.hid (T5.out.kp kp1 (fun b hb hm => by have h1 := HX1.out b (.inl hm); have h2 := HM2.out b (.inl hb); omega) (fun b hb hm => by have h1 := HX1.out b (.inl hm); have h2 := HM2.out b (.inr hb); omega))
      have RO6 := Lib.hid (Tab.own_kp RO5.out kp1 (fun b hb hm => by have h1 := HX1.out b (.inl hm); have h2 := (RO5.out.lt b hb).1; have h3 := HZ.out; omega))
      have RU6 := Lib.hid (Tab.own_kp RU5.out kp1 (fun b hb hm => by have h1 := HX1.out b (.inl hm); have h2 := (RU5.out.lt b hb).1; have h3 := HZ.out; omega))
      obtain ⟨a1, k1, rfl⟩ := Tab.own_len hrow1
      have ROW6 := Lib.hid (show w6.ownsRow w5.heap.size 9 1 (.slice a1 f1.out.length k1) f1.out.length (f1.out.map .string) from hrow1)
      obtain ⟨n1, hn1⟩ : ∃ n1, f1.out.length = n1 := ⟨_, rfl⟩
      have HN1 := Lib.hid hn1
      obtain ⟨fr, hfr⟩ : ∃ fr, f1.freed = fr := ⟨_, rfl⟩
      have HFR := Lib.hid hfr
      rw [hn1, hfr]
      clear hfin1 hrow1 his1 kp1 hsub1 hway1 hn1 hfr
      have hr1 : Texts.Reads w6 (.slice (some ⟨g4, 0, none⟩) m k4) roots := (HRW.out w6 RO6.out).2.reads
      have hr2 : Texts.Reads w6 (.slice ao m cap) roots := (HROOT.out w6 (b0.trans (c6.mono b0.size))).reads
      obtain ⟨g0, g1, g2⟩ := GX.out w6 c6
      go_wp2_with fail
      clear g0 g1 g2
      refine (Texts.texts w6 _ _ roots roots hr1 hr2).mono ?_
      rintro e w7 ⟨rfl, sm⟩
      rw [show decide (roots = roots) = true from decide_eq_true rfl]
      have b7 : Below w6.heap.size w6 w7 := sm.below (Below.refl _ _)
      have c7 := c6.trans (b7.mono c6.size)
      have z7 : w3.heap.size ≤ w7.heap.size := Nat.le_trans z6 b7.size
      have RO7 := Lib.hid (Copy.own_below RO6.out b7)
      have RU7 := Lib.hid (Copy.own_below RU6.out b7)
      have ROW7 := Lib.hid (Copy.own_below ROW6.out b7)
      have S7 := Lib.hid (S6.out.below b7)
      have T7 := Lib.hid (T6.out.below b7)
      have cg4 := (HRW.out w7 RO7.out).1
      have cg5 := (HUW.out w7 RU7.out).1
      have hwm : IntKind.i64.wrap ((m : Int) + 1) = (m : Int) + 1 := by rw [IntKind.wrap_i64]; omega
      have hwu : IntKind.i64.wrap ((mu : Int) + 1) = (mu : Int) + 1 := by rw [IntKind.wrap_i64]; omega
      have hm1 : (0 : Int) ≤ (m : Int) + 1 := by omega
      have hm2 : (m : Int) + 1 ≤ (k4 : Int) := by omega
      have hm3 : (m : Int) < (m : Int) + 1 := by omega
      have hu1 : (0 : Int) ≤ (mu : Int) + 1 := by omega
      have hu2 : (mu : Int) + 1 ≤ (k5 : Int) := by omega
      have hu3 : (mu : Int) < (mu : Int) + 1 := by omega
      clear hr1 hr2 sm b7
      go_wp2_with fail
      clear cg4 cg5 hwm hm1 hm2 hm3 hu1 hu2 hu3 hwu
      go_loopw [13, 94] (fun _ i wr => ∃ k : Nat, k ≤ mu ∧ i = .int .i64 k ∧ Below w7.heap.size w7 wr) (fun _ i _ => mu - (intOf i).toNat)
      case atStart => exact ⟨0, Nat.zero_le _, rfl, Below.refl _ _⟩
      case round =>
        obtain ⟨k, hk, rfl, bj⟩ := hrel
        have cj := c7.trans (bj.mono c7.size)
        by_cases hlt : k < mu
        · obtain ⟨rb, ro, rcap, hrv, hcells⟩ := uses_at (HUSES.out wr (b0.trans (cj.mono b0.size))) (by rw [HMU.out]; omega)
          rw [HMU.out] at hrv
          obtain ⟨e1, e2⟩ : ao2 = some ⟨rb, ro, none⟩ ∧ cap2 = rcap := by
            injection hrv with h1 h2 h3
            exact ⟨h1, h3⟩
          subst e1
          clear e2 hrv
          have hkl : k < us.length := by rw [HMU.out]; exact hlt
          obtain ⟨p1, p2⟩ := hcells k hkl
          obtain ⟨q1, q2⟩ := (HUW.out wr (Copy.own_below RU7.out bj)).2.1 k hkl
          obtain ⟨p, hp⟩ : ∃ p, us[k].1 = p := ⟨_, rfl⟩
          obtain ⟨c, hc⟩ : ∃ c, us[k].2 = c := ⟨_, rfl⟩
          rw [hp] at p1 q1
          rw [hc] at p2 q2
          obtain ⟨g0, g1, g2⟩ := GX.out wr cj
          have heq := eqUse p c
          have e0 : (0 : Int) ≤ (k : Int) := Int.natCast_nonneg _
          have e1 : (k : Int) < (mu : Int) := by omega
          clear hcells hp hc hkl
          go_wp2_with fail
          go_quiet (fail)
          go_wp2_with fail
          go_roundw
          case rel => exact ⟨k + 1, by omega, by go_num, bj.trans ((Dn.drewN _ _).below.mono bj.size)⟩
          case measure => simp [intOf]; omega
        · have hkn : mu = k := by omega
          subst hkn
          have RO8 := Lib.hid (Copy.own_below RO7.out bj)
          have ROW8 := Lib.hid (Copy.own_below ROW7.out bj)
          have S8 := Lib.hid (S7.out.below bj)
          have T8 := Lib.hid (T7.out.below bj)
          have z8 : w3.heap.size ≤ wr.heap.size := Nat.le_trans z7 bj.size
          obtain ⟨g0, g1, g2⟩ := GX.out wr cj
          clear hlt hk bj
          go_wp2_with fail
          clear g0 g1 g2
          generalize wr = w8 at *
          go_loopw [14, 15, 111] (fun x14 _ i wr => ∃ k : Nat, ∃ ao c, k ≤ m ∧ i = .int .i64 k ∧ x14 = .slice ao k c ∧ Hid (∃ T : List ByteArray, k = T.length ∧ wr.ownsRow w8.heap.size 9 1 (.slice ao k c) k (T.map .string) ∧ (∀ x ∈ T, x ∈ roots) ∧ ∀ i, i < k → ∀ x, roots[m - 1 - i]? = some x → x ∈ T) ∧ Below w8.heap.size w8 wr) (fun _ _ i _ => m - (intOf i).toNat)
          case atStart => exact ⟨0, none, 0, Nat.zero_le _, rfl, rfl, Lib.hid ⟨[], rfl, World.ownsRow_nil _ _ _ _, fun x h => (by cases h), fun i h => (by omega)⟩, Below.refl _ _⟩
          case round =>
            obtain ⟨k, aoT, cT, hk9, rfl, rfl, HT, bt⟩ := hrel
            have ct := cj.trans (bt.mono cj.size)
            by_cases hlt9 : k < m
            · obtain ⟨rb, ro, rcap, hrv, hcells⟩ := strs_at (HROOT.out wr (b0.trans (ct.mono b0.size))) (by rw [HM.out]; omega)
              rw [HM.out] at hrv
              obtain ⟨e1, e2⟩ : ao = some ⟨rb, ro, none⟩ ∧ cap = rcap := by
                injection hrv with h1 h2 h3
                exact ⟨h1, h3⟩
              subst e1
              clear e2 hrv
              obtain ⟨j, hj⟩ : ∃ j, m = k + 1 + j := ⟨m - k - 1, by omega⟩
              have hjl : j < roots.length := by rw [HM.out]; omega
              have g1' := hcells j hjl
              obtain ⟨x, hx⟩ : ∃ x, roots[j] = x := ⟨_, rfl⟩
              rw [hx] at g1'
              have HXY := Lib.hid (show x ∈ roots ∧ roots[m - 1 - k]? = some x from ⟨by rw [← hx]; exact List.getElem_mem _, by rw [show m - 1 - k = j by omega, List.getElem?_eq_getElem hjl, hx]⟩)
              have hw1 : IntKind.i64.wrap ((m : Int) - 1) = (m : Int) - 1 := by rw [IntKind.wrap_i64]; omega
              have hw2 : IntKind.i64.wrap ((m : Int) - 1 - (k : Int)) = (j : Int) := by rw [IntKind.wrap_i64]; omega
              have j0 : (0 : Int) ≤ (j : Int) := Int.natCast_nonneg _
              have j1 : (j : Int) < (m : Int) := by omega
              obtain ⟨T, hTl, hTo, hTs, hTm⟩ := HT.out
              obtain ⟨i0, hi, hz0, hz1, hz2⟩ := info_parts Make.infoStr
              have hsz1 : w8.heap.size ≤ wr.heap.size := bt.size
              have HTO := Lib.hid hTo
              have HNEW := Lib.hid (show ∀ (v' : Value) (W8 : World), W8.ownsRow w8.heap.size 9 1 v' (k + 1) (T.map .string ++ [.string x]) → ∃ T : List ByteArray, k + 1 = T.length ∧ W8.ownsRow w8.heap.size 9 1 v' (k + 1) (T.map .string) ∧ (∀ x ∈ T, x ∈ roots) ∧ ∀ i, i < k + 1 → ∀ x, roots[m - 1 - i]? = some x → x ∈ T from
                fun v' W8 hown8 => ⟨T ++ [x], by rw [List.length_append, ← hTl]; rfl, by rw [List.map_append]; exact hown8, fun z hz => by
                  rcases List.mem_append.1 hz with hz | hz
                  · exact hTs z hz
                  · rw [List.mem_singleton.1 hz]; exact HXY.out.1, fun i hi z hz => by
                  rw [List.mem_append]
                  by_cases e : i = k
                  · subst e
                    rw [HXY.out.2] at hz
                    obtain rfl := Option.some.inj hz
                    exact .inr (by simp)
                  · exact .inl (hTm i (by omega) z hz)⟩)
              obtain ⟨g0, g1, g2⟩ := GX.out wr ct
              clear hj hcells hx hjl hTl hTs hTm HT
              go_wp2_with (at_builtin; go_loud (refine wpList_append_own _ rfl _ _ 27 rfl w8.heap.size 9 i0 (.string ⟨#[]⟩) 1 16 Tryz.underlying27 hi hz0 hz1 hz2 rfl (by decide) _ _ _ rfl (hTo.alloc _) ⟨wr.heap.size, 0, none⟩ 1 1 [.string x] rfl rfl (cell_one_new _ _ _) (by simp [Value.oneCell']) (by unfold maxLen; omega) (by omega) (by simp; omega) ?_; intro v' w9 hown8 hgrow hnil; obtain ⟨g', cap', rfl⟩ := ownsRow_succ hown8; have HN8 := Lib.hid hown8; have HG8 := Lib.hid hgrow; clear hown8 hgrow hnil))
              have hba : Below wr.heap.size wr (wr.alloc (.cells #[.string x] 9)) := (Below.refl _ wr).alloc (Nat.le_refl _) _
              have hB8 : Below w8.heap.size w8 w9 := (bt.trans (hba.mono bt.size)).grown HG8.out (by have := hba.size; omega) (fun k e => (HTO.out.lt k e).1)
              have HF2 := Lib.hid (HNEW.out _ _ HN8.out)
              clear hTo g0 g1 g2
              go_roundw
              case rel => exact ⟨k + 1, _, _, by omega, by go_num, rfl, HF2, hB8⟩
              case measure => simp [intOf]; omega
            · have hkm : m = k := by omega
              subst hkm
              obtain ⟨T, hTl, hTo, hTs, hTm⟩ := HT.out
              have HTT := Lib.hid (show ∀ x, x ∈ T ↔ x ∈ roots from fun x => ⟨hTs x, fun hx => by
                obtain ⟨i, hi, rfl⟩ := List.mem_iff_getElem.1 hx
                rw [HM.out] at hi
                exact hTm (m - 1 - i) (by omega) _ (by rw [show m - 1 - (m - 1 - i) = i by omega, List.getElem?_eq_getElem])⟩)
              have HTO := Lib.hid hTo
              have HTL := Lib.hid hTl
              have S9 := Lib.hid (S8.out.below bt)
              have T9 := Lib.hid (T8.out.below bt)
              have RW9 := Lib.hid (Copy.own_below ROW8.out bt)
              have z9 : w3.heap.size ≤ wr.heap.size := Nat.le_trans z8 bt.size
              clear HT hTl hTs hTm hlt9 hk9
              go_wp2_with fail
              refine (hasC M2 F2 s2 rs other wr T9.out (by have := HFIT.out.len; omega)).mono ?_
              rintro e w9 ⟨rfl, b9⟩
              have c9 := ct.trans (b9.mono ct.size)
              have z10 : w3.heap.size ≤ w9.heap.size := Nat.le_trans z9 b9.size
              have T10 := Lib.hid (T9.out.below b9)
              have S10 := Lib.hid (S9.out.below b9)
              have RW10 := Lib.hid (Copy.own_below RW9.out b9)
              have hTo9 := Copy.own_below hTo b9
              have HTO9 := Lib.hid hTo9
              have hz89 : w8.heap.size ≤ w9.heap.size := Nat.le_trans bt.size b9.size
              obtain ⟨H, hH⟩ : ∃ H, Sto.has rs other = H := ⟨_, rfl⟩
              rw [hH]
              have HH := Lib.hid hH
              obtain ⟨g0, g1, g2⟩ := GX.out w9 c9
              clear hH hTo b9
              cases H
              case true =>
                go_wp2_with fail
                clear g0 g1 g2 hTo9
                have HDS := Lib.hid (show deadL rs T = deadL rs roots from dead_same fun x _ => HTT.out x)
                have hst : Strs (fun b => b < w9.heap.size) w9 (.slice aoT m cT) T := by
                  have h := HTO9.out
                  rw [HTL.out] at h ⊢
                  exact (Strs.of_own h).sub (fun b hb _ => hb)
                have hTn : T.length ≤ 1048576 := by have := HTL.out; omega
                refine (collectF M2 F2 s2 rs _ T _ us want w9 T10.out HFIT.out hst hTn ((HUSES.out w9 (b0.trans (c9.mono b0.size))).sub (fun b h _ => h)) (by rw [HMU.out]; omega) HUS.out).mono ?_
                rintro e w11 ⟨f2, v2, N2, hfin2, rfl, hrow2, his2, kp2, hsub2⟩
                rw [HDS.out] at hfin2
                obtain rfl := fin_same hfin2 HFN.out
                have c11 := c9.trans (kp2.below c9.size (fun i hi hm => by have h1 := HM2.out i (.inl hm); have h2 := HZ.out; omega))
                have S11 := Lib.hid (S10.out.kp kp2 (fun b hb hm => by have h1 := HM2.out b (.inl hm); have h2 := HX1.out b (.inl (HN1M.out b hb)); omega) (fun b hb hm => by have h1 := HM2.out b (.inl hm); have h2 := HX1.out b (.inr hb); omega))
                have RW11 := Tab.own_kp RW10.out kp2 (fun b hb hm => by have h1 := HX2.out b (.inl hm); have h2 := (ROW6.out.lt b hb).1; have h3 := HZ.out; omega)
                have T11 := Lib.hid his2
                have hr1 := Texts.Reads.of_own RW11
                have hr2 := Texts.Reads.of_own hrow2
                obtain ⟨a2, k2, rfl⟩ := Tab.own_len hrow2
                rw [HN1.out] at hr1 hr2 ⊢
                rw [HFR.out]
                have te : (fr == fr) = true := by simp
                clear hfin2 hrow2 his2 kp2 hsub2 RW11 hst
                go_wp2_with fail
                refine (Texts.texts w11 _ _ f2.out f2.out hr1 hr2).mono ?_
                rintro e w12 ⟨rfl, sm⟩
                rw [show decide (f2.out = f2.out) = true from decide_eq_true rfl]
                have b12 : Below w11.heap.size w11 w12 := sm.below (Below.refl _ _)
                have c12 := c11.trans (b12.mono c11.size)
                clear hr1 hr2 sm
                go_wp2_with fail
                refine (allC N2 F2 s2 f2.rs w12 (T11.out.below b12) HF1.out.len HF1.out.bulk).mono ?_
                rintro e w13 ⟨v13, rfl, hrec13, b13⟩
                have R13 := Lib.hid hrec13
                obtain ⟨a13, k13, rfl, _, _, _⟩ := hrec13
                have c13 := c12.trans (b13.mono c12.size)
                go_wp2_with fail
                refine (wholeC N1 F1 _ s1 f2.rs _ f2.rs w13 ((S11.out.below b12).below b13) HF1.out.len HF1.out.bulk R13.out rfl (fun r hr => Sp.get_of_mem HF1.out.rise hr)).mono ?_
                rintro e w14 ⟨rfl, b14⟩
                have c14 := c13.trans (b14.mono c13.size)
                go_wp2_with fail
                go_ret
                exact ⟨rfl, b0.trans (c14.mono b0.size)⟩
              case false =>
                obtain ⟨i0, hi, hz0, hz1, hz2⟩ := info_parts Make.infoStr
                go_wp2_with (at_builtin; go_loud (refine wpList_append_own _ rfl _ _ 27 rfl w8.heap.size 9 i0 (.string ⟨#[]⟩) 1 16 Tryz.underlying27 hi hz0 hz1 hz2 rfl (by decide) _ _ _ rfl (hTo9.alloc _) ⟨w9.heap.size, 0, none⟩ 1 1 [.string other] rfl rfl (cell_one_new _ _ _) (by simp [Value.oneCell']) (by unfold maxLen; omega) (by omega) (by simp; omega) ?_; intro v' wB hown8 hgrow hnil; obtain ⟨g', cap', rfl⟩ := ownsRow_succ hown8; have HN8 := Lib.hid hown8; have hba : Below w9.heap.size w9 (w9.alloc (.cells #[.string other] 9)) := (Below.refl _ w9).alloc (Nat.le_refl _) _; have hkB : Kp (fun k => (Value.slice aoT m cT).ownBlock = some k) w9 wB := (Kp.of_below hba).then (Kp.of_grown hgrow (fun r e _ => e)); have hcB : Below w0.heap.size w0 wB := c9.trans (hkB.below c9.size (fun i hi e => by have h1 := (HTO9.out.lt i e).1; have h2 := HZ.out; have h3 := cj.size; omega)); obtain ⟨g0, g1, g2⟩ := GX.out wB hcB; have HKB := Lib.hid hkB; clear hown8 hgrow hnil hba hkB))
                clear g0 g1 g2 hTo9
                have HDS := Lib.hid (show deadL rs (T ++ [other]) = deadL rs roots from dead_same fun x hx => by
                  rw [List.mem_append, List.mem_singleton, HTT.out]
                  exact ⟨fun h => h.elim id (fun e => by rw [e, HH.out] at hx; cases hx), .inl⟩)
                have hst : Strs (fun b => b < wB.heap.size) wB (.slice (some ⟨g', 0, none⟩) (m + 1) cap') (T ++ [other]) := by
                  have h : wB.ownsRow w8.heap.size 9 1 (.slice (some ⟨g', 0, none⟩) (m + 1) cap') (m + 1) ((T ++ [other]).map .string) := by rw [List.map_append]; exact HN8.out
                  have e : m + 1 = (T ++ [other]).length := by rw [List.length_append, ← HTL.out]; rfl
                  rw [e] at h ⊢
                  exact (Strs.of_own h).sub (fun b hb _ => hb)
                have hTn : (T ++ [other]).length ≤ 1048576 := by rw [List.length_append, ← HTL.out]; simp; omega
                have hlo : ∀ b, M2 b ∨ F2 b ∨ N1 b ∨ F1 b → ¬ (Value.slice aoT m cT).ownBlock = some b := fun b hb e => by
                  have h1 := (HTO9.out.lt b e).1
                  have h3 := HZ.out
                  rcases hb with h | h | h | h
                  · have := HX2.out b (.inl h); omega
                  · have := HX2.out b (.inr h); omega
                  · have := HX1.out b (.inl (HN1M.out b h)); omega
                  · have := HX1.out b (.inr h); omega
                have T10 := Lib.hid (T10.out.kp HKB.out (fun b hb => hlo b (.inl hb)) (fun b hb => hlo b (.inr (.inl hb))))
                have S10 := Lib.hid (S10.out.kp HKB.out (fun b hb => hlo b (.inr (.inr (.inl hb)))) (fun b hb => hlo b (.inr (.inr (.inr hb)))))
                have RW10 := Lib.hid (Tab.own_kp RW10.out HKB.out (fun b hb e => by have h1 := (HTO9.out.lt b e).1; have h2 := (ROW8.out.lt b hb).2; omega))
                have z10 : w3.heap.size ≤ wB.heap.size := Nat.le_trans z10 HKB.out.size
                clear hlo
                refine (collectF M2 F2 s2 rs _ (T ++ [other]) _ us want wB T10.out HFIT.out hst hTn ((HUSES.out wB (b0.trans (hcB.mono b0.size))).sub (fun b h _ => h)) (by rw [HMU.out]; omega) HUS.out).mono ?_
                rintro e w11 ⟨f2, v2, N2, hfin2, rfl, hrow2, his2, kp2, hsub2⟩
                rw [HDS.out] at hfin2
                obtain rfl := fin_same hfin2 HFN.out
                have c11 := hcB.trans (kp2.below hcB.size (fun i hi hm => by have h1 := HM2.out i (.inl hm); have h2 := HZ.out; omega))
                have S11 := Lib.hid (S10.out.kp kp2 (fun b hb hm => by have h1 := HM2.out b (.inl hm); have h2 := HX1.out b (.inl (HN1M.out b hb)); omega) (fun b hb hm => by have h1 := HM2.out b (.inl hm); have h2 := HX1.out b (.inr hb); omega))
                have RW11 := Tab.own_kp RW10.out kp2 (fun b hb hm => by have h1 := HX2.out b (.inl hm); have h2 := (ROW6.out.lt b hb).1; have h3 := HZ.out; omega)
                have T11 := Lib.hid his2
                have hr1 := Texts.Reads.of_own RW11
                have hr2 := Texts.Reads.of_own hrow2
                obtain ⟨a2, k2, rfl⟩ := Tab.own_len hrow2
                rw [HN1.out] at hr1 hr2 ⊢
                rw [HFR.out]
                have te : (fr == fr) = true := by simp
                clear hfin2 hrow2 his2 kp2 hsub2 RW11 hst
                go_wp2_with fail
                refine (Texts.texts w11 _ _ f2.out f2.out hr1 hr2).mono ?_
                rintro e w12 ⟨rfl, sm⟩
                rw [show decide (f2.out = f2.out) = true from decide_eq_true rfl]
                have b12 : Below w11.heap.size w11 w12 := sm.below (Below.refl _ _)
                have c12 := c11.trans (b12.mono c11.size)
                clear hr1 hr2 sm
                go_wp2_with fail
                refine (allC N2 F2 s2 f2.rs w12 (T11.out.below b12) HF1.out.len HF1.out.bulk).mono ?_
                rintro e w13 ⟨v13, rfl, hrec13, b13⟩
                have R13 := Lib.hid hrec13
                obtain ⟨a13, k13, rfl, _, _, _⟩ := hrec13
                have c13 := c12.trans (b13.mono c12.size)
                go_wp2_with fail
                refine (wholeC N1 F1 _ s1 f2.rs _ f2.rs w13 ((S11.out.below b12).below b13) HF1.out.len HF1.out.bulk R13.out rfl (fun r hr => Sp.get_of_mem HF1.out.rise hr)).mono ?_
                rintro e w14 ⟨rfl, b14⟩
                have c14 := c13.trans (b14.mono c13.size)
                go_wp2_with fail
                go_ret
                exact ⟨rfl, b0.trans (c14.mono b0.size)⟩
end Go.Proofs.YtmmmghpimdfleaaGreatDoor.sweepKeeps
