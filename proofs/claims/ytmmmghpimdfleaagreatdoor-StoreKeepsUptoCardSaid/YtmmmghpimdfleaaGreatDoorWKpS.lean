/-
  StoreKeeps: the walk of the law (printed by tools/mkstkp.py).
-/
import Derived.Test.YtmmmghpimdfleaaGreatDoorGot
import Derived.Test.YtmmmghpimdfleaaGreatDoorSpoil
import Derived.Test.YtmmmghpimdfleaaGreatDoorTwin
import Derived.Test.YtmmmghpimdfleaaGreatDoorGrpY
import Derived.Test.YtmmmghpimdfleaaGreatDoorGrpX
import Derived.Test.YtmmmghpimdfleaaGreatDoorGrpW
import Derived.Test.YtmmmghpimdfleaaGreatDoorGrpZ
import Derived.Test.YtmmmghpimdfleaaGreatDoorAppT
import Derived.Test.YtmmmghpimdfleaaGreatDoorGrpV
set_option linter.unusedVariables false
set_option linter.unusedSimpArgs false
namespace Go.Proofs.YtmmmghpimdfleaaGreatDoor.storeKeeps
open Go.RowKit Mem Tr St
open Go.Proofs.YtmmmghpimdfleaaGreatDoor.Own
open Go.Proofs.YtmmmghpimdfleaaGreatDoor.AppS (step_append_own)

def gap : ByteArray := ⟨#[103, 97, 112]⟩
theorem fin4 {w : World} {B m a4 : Nat} {v : Value} {xs : List Value} {y z : ByteArray} (hown : w.ownsRow B 9 1 v m xs) (hx : Bx w a4 #[.string y, .string z] 9) (hm : m ≤ 4194304) (hB : B ≤ w.heap.size) :
    ∃ (g k : Nat) (w' : World), (Builtin.append_ #[27, 27] 27 #[v, .slice (some ⟨a4, 0, none⟩) 2 2]).run Tryz.prog w = .ok (.slice (some ⟨g, 0, none⟩) (m + 2) k) w' ∧ w'.ownsRow B 9 1 (.slice (some ⟨g, 0, none⟩) (m + 2) k) (m + 2) (xs ++ [.string y, .string z]) ∧ w.grownBy w' v.ownBlock ∧ m + 2 ≤ k := by
  obtain ⟨i0, hi, hz0, hz1, hz2⟩ := info_parts Make.infoStr
  have hr := hx.range
  obtain ⟨v', w', h1, h2, h3, _, _⟩ := run_append_own_at (P := Tryz.prog) w B 27 27 9 i0 (.string ⟨#[]⟩) 1 16 Tryz.underlying27 hi hz0 hz1 hz2 rfl (by decide) v m xs hown ⟨a4, 0, none⟩ 2 2 [.string y, .string z] rfl (fun j u hj => by
    rw [Go.WideShapes.add_plain]
    exact hr j u (by simpa using hj)) (by intro u hu; simp only [List.mem_cons, List.not_mem_nil, or_false] at hu; rcases hu with rfl | rfl <;> rfl) (by unfold maxLen; omega) (by omega) hB
  obtain ⟨g, k, rfl⟩ := ownsRow_succ h2
  refine ⟨g, k, w', h1, h2, h3, ?_⟩
  rcases h2.2 with ⟨h', _⟩ | ⟨g', cap', cur, h', _, _, hn, _⟩
  · cases h'
  · cases h'; exact hn
theorem rch_size {rs : List Rec} {roots : List ByteArray} {N : Nat} (h1 : ∀ p ∈ roots, p.size ≤ N) (h2 : ∀ r ∈ rs, ∀ q ∈ r.refs, q.size ≤ N) {p : ByteArray} (hp : Rch rs roots p) : p.size ≤ N := by
  induction hp with
  | root hm => exact h1 _ hm
  | step _ hr hq _ => exact h2 _ hr _ hq
theorem mem_bulks {l : List ByteArray} {p : ByteArray} (h : p ∈ l) : p.size + 1 ≤ bulks l := by
  induction l with
  | nil => cases h
  | cons x l ih =>
    unfold bulks
    rcases List.mem_cons.1 h with rfl | h
    · omega
    · have := ih h; omega

set_option maxHeartbeats 8000000 in
set_option maxRecDepth 20000 in
theorem walk {rc st : Nat → BitVec 32} (w : World) (hg : Sum.Gl rc st w) (x : Rec) (cs : List Value) (hx : RecAt (fun b => b < w.heap.size) w cs x) (hcap : ∀ kv n cap, cs = x.cells kv (.slice none n cap) → cap = 0) (rv : Value) (roots : List ByteArray) (hro : Strs (fun b => b < w.heap.size) w rv roots) (hrcap : ∀ n cap, rv = .slice none n cap → cap = 0) (hb : x.bulk + 2 * bulks roots ≤ 2097152) (hb2 : bulks x.refs + bulks roots ≤ 1048576) :
    Calls Tryz.prog 15 #[.agg cs.toArray, rv] w fun e w' => e = .returned (.bool true) ∧ Below w.heap.size w w' := by
  have HG := Lib.hid hg
  have HX := Lib.hid hx
  have HRO := Lib.hid hro
  have HCAP := Lib.hid hcap
  have HRC := Lib.hid hrcap
  have hcl := hx.length
  have hbx : x.bulk ≤ 2097152 := by omega
  have hml : roots.length ≤ 1048576 := by have := length_bulks roots; omega
  have HP := Lib.hid (show ∀ h : 0 < cs.length, cs[0] = .string x.path from fun h => by obtain ⟨kv, rv, rfl, _⟩ := hx; rfl)
  obtain ⟨m, hm⟩ : ∃ m, roots.length = m := ⟨_, rfl⟩
  have HM := Lib.hid hm
  obtain ⟨ao, cap, rfl, _, _, _⟩ := hro
  rw [hm] at hml HRO HRC ⊢
  have HB2 := Lib.hid hb2
  clear hg hx hcap hrcap hm hb hb2
  go_enter Tryz.func15, Tryz.ntmps15
  go_wp2_with fail
  refine calls_named fun w0 hw0 => ?_
  obtain ⟨b0, x0⟩ := alloc_fact hw0
  have X0 := Lib.hid (show Bx w0 w.heap.size cs.toArray 31 from x0)
  clear hw0 x0
  refine (newC w0).mono ?_
  rintro e w1 ⟨M1, F1, s1, rfl, h1, hMF1, c1⟩
  have H1 := Lib.hid h1
  have HM1 := Lib.hid hMF1
  have HX1 := Lib.hid (show ∀ b, M1 b ∨ F1 b → b < w1.heap.size from h1.lt)
  clear h1 hMF1
  go_wp2_with fail
  refine (awakeC rc st w1 (HG.out.below (b0.trans (c1.mono b0.size)))).mono ?_
  rintro e w2 ⟨rfl, d2⟩
  have c2 := c1.trans (d2.mono c1.size)
  have HZ12 := Lib.hid d2.size
  have H2 := Lib.hid (H1.out.below d2)
  have XR := Lib.hid (show ∀ W, Below w0.heap.size w0 W → W.rangeAt w.heap.size 0 cs from fun W hb => by have := (X0.out.below hb).range; simpa using this)
  have XA := Lib.hid (show ∀ W, Below w0.heap.size w0 W → RecAt (fun b => b < w.heap.size) W cs x from fun W hb => HX.out.below (b0.trans (hb.mono b0.size)))
  have XS := Lib.hid (show ∀ W, Below w0.heap.size w0 W → Strs (fun b => b < w.heap.size) W (.slice ao m cap) roots from fun W hb => HRO.out.below (b0.trans (hb.mono b0.size)))
  have XG := Lib.hid (show ∀ W, Below w0.heap.size w0 W → Sum.Gl rc st W from fun W hb => HG.out.below (b0.trans (hb.mono b0.size)))
  clear d2
  have r2 := XR.out w2 c2
  go_wp2_with (refine wpList_load_mid rfl 31 _ (by rfl) (w.heap.size) 0 (by rfl) cs _ r2 Tryz.underlying31 rfl (by rw [hcl]; kernel_rfl) ?_)
  refine (Twin.twinC (fun b => b < w.heap.size) x cs w2 (XA.out w2 c2) HCAP.out hbx).mono ?_
  rintro e w3 ⟨cm, rfl, hrm, d3⟩
  have c3 := c2.trans (d3.mono c2.size)
  have HRM := Lib.hid hrm
  have hcml := hrm.rec.length
  have hcmo := Tab.recOne hrm.rec
  clear hrm r2
  go_wp2_with (first
    | (refine wpList_store_mid (by rfl) 31 _ _ (by rfl) w3.heap.size 0 cm.toArray (by rfl) (by rfl) ?h4 ?h5 ?h6 ?_; rotate_right; refine Mem.named ?_; intro w4 hW4; have hrg := stash_range hW4 hcml.symm)
    | (refine wpList_load_mid rfl 31 _ (by rfl) (w3.heap.size) 0 (by rfl) cm _ hrg Tryz.underlying31 rfl (by rw [hcml]; kernel_rfl) ?_))
  case h4 => first | exact (Bx.new w3 Ins.zeroRec.cells 31).there 39 rfl | exact (Bx.new w3 Ins.zeroRec.cells 31).there _ (by rw [show cm.toArray.size = 39 by simpa using hcml]; rfl)
  case h5 => first | exact infoEx | (rw [List.size_toArray, hcml]; kernel_rfl)
  case h6 => first | exact hcmo | exact all_oneCell_toArray hcmo
  have d4 := stash hW4
  have hlt4 : w3.heap.size < w4.heap.size := by
    have h9 := World.block_lt_of_cell? w4 _ (hrg 0 _ (List.getElem?_eq_getElem (show 0 < cm.length by omega)))
    exact h9
  have c4 := c3.trans (d4.mono c3.size)
  have GM := Lib.hid (show GotR w4 w2.heap.size w4.heap.size w3.heap.size cm x from
    { rng := hrg, ge := d3.size, lt := hlt4, le := Nat.le_refl _, rcd := (((HRM.out.sub (S' := fun b => w2.heap.size ≤ b ∧ b < w3.heap.size) (fun q hq h => ⟨h, hq⟩)).below d4).sub (S' := fun b => w2.heap.size ≤ b ∧ b < w4.heap.size ∧ b ≠ w3.heap.size) (fun q hq h => ⟨h.1, hq, fun e => by have := h.2; omega⟩)) })
  have r4 := GM.out.rng
  have r4a := XR.out w4 c4
  clear hW4 hrg
  go_wp2_with (refine wpList_load_mid rfl 31 _ (by rfl) (w3.heap.size) 0 (by rfl) cm _ r4 Tryz.underlying31 rfl (by rw [hcml]; kernel_rfl) ?_)
  have HF4 := Lib.hid ((H2.out.below d3).below d4)
  have hgood : Sto.Good rc st [] := Sto.good_nil rc st
  refine (insertC rc st M1 F1 (fun b => b < w4.heap.size) s1 [] x cm w4 HF4.out (XG.out w4 c4) (GM.out.recAt.sub (fun b hb _ => hb)) (fun b h => h) hgood (by omega) (by simp)).mono ?_
  rintro e w5 ⟨rfl, M5, F5, h5, k5, hM5, hF5⟩
  have c5 := c4.trans (k5.below c4.size (fun i hi hm => by have := HM1.out i (.inl hm); omega))
  have z12 : w1.heap.size ≤ w2.heap.size := HZ12.out
  have GM5 := Lib.hid (GM.out.kp k5 (fun q h1 h2 hm => by have := HX1.out q (.inl hm); omega))
  have HB5 := Lib.hid (show ∀ b, M5 b ∨ F5 b → w0.heap.size ≤ b ∧ (b < w2.heap.size ∨ w4.heap.size ≤ b) from fun b hb => by
    have h4 := c4.size
    rcases hb with h | h
    · rcases hM5 b h with h | h
      · exact ⟨HM1.out b (.inl h), .inl (Nat.lt_of_lt_of_le (HX1.out b (.inl h)) z12)⟩
      · exact ⟨by omega, .inr h⟩
    · rcases hF5 b h with h | h
      · exact ⟨HM1.out b (.inr h), .inl (Nat.lt_of_lt_of_le (HX1.out b (.inr h)) z12)⟩
      · exact ⟨by omega, .inr h⟩)
  have H5 := Lib.hid h5
  have z45 := k5.size
  clear h5 k5 hM5 hF5 r4 r4a hgood
  obtain ⟨E, hE⟩ : ∃ E, Sto.insE rc st [] x = E := ⟨_, rfl⟩
  have HE := Lib.hid hE
  rw [hE]
  clear hE
  by_cases hz : E = 0
  case neg =>
    have t1 : (E != 0) = true := by simpa using hz
    have r5 := GM5.out.rng
    have r5a := XR.out w5 c5
    clear hz
    go_wp2_with (first | (refine wpList_load_mid rfl 31 _ (by rfl) (w3.heap.size) 0 (by rfl) cm _ r5 Tryz.underlying31 rfl (by rw [hcml]; kernel_rfl) ?_) | (refine wpList_load_mid rfl 31 _ (by rfl) (w.heap.size) 0 (by rfl) cs _ r5a Tryz.underlying31 rfl (by rw [hcl]; kernel_rfl) ?_))
    refine (rsameC _ _ x x cm cs w5 GM5.out.recAt (XA.out w5 c5) (by omega)).mono ?_
    rintro e w6 ⟨rfl, b6⟩
    go_wp2_with fail
    go_ret
    exact ⟨by rw [show eqR x x = true from decide_eq_true rfl]; rfl, b0.trans ((c5.trans (b6.mono c5.size)).mono b0.size)⟩
  subst hz
  have hS : Sto.insS rc st [] x = [x] := by unfold Sto.insS; rw [if_pos HE.out]; rfl
  rw [hS] at H5
  have S5 := Lib.hid H5.out.lt
  clear hS
  have hm0 : (0 : Int) ≤ (m : Int) + 1 := by omega
  have hwm : IntKind.i64.wrap ((m : Int) + 1) = (m : Int) + 1 := by rw [IntKind.wrap_i64]; omega
  have hS7 : ∀ W', Below w5.heap.size w5 W' → W'.cell? ⟨w.heap.size, 0, none⟩ = some (.string x.path) := fun W' hb => by
    have h := XR.out W' (c5.trans (hb.mono c5.size)) 0 _ (List.getElem?_eq_getElem (show 0 < cs.length by omega))
    rw [HP.out] at h
    exact h
  have hS0 := hS7 w5.drew (Below.refl _ w5).drew
  go_wp2_with fail
  refine (fun (h7 : Go.RowKit.Hid ?P7) => ?main7) ?tail7
  case main7 =>
    refine wp_region_held_drew (S := fun W' => W'.cell? ⟨w.heap.size, 0, none⟩ = some (.string x.path)) (by kernel_rfl) hS0 (fun hHeld => ?_)
    refine wpAnyH_take (i := 1) (v := ?_) rfl (by kernel_rfl) (by kernel_rfl) (by kernel_rfl) (fun _ _ _ h => h) (Or.inl ⟨by rfl, ?_⟩) (by assumption) ?_
    rotate_left
    · (intro w hSw; go_simp; try with_reducible rfl)
    simp only [Act.put, List.setIfInBounds_toArray, List.set_cons_zero, List.set_cons_succ]
    refine wpAnyH_take (i := 3) (v := ?_) rfl (by kernel_rfl) (by kernel_rfl) (by kernel_rfl) (fun _ _ _ h => h) (Or.inl ⟨by rfl, ?_⟩) (by assumption) ?_
    rotate_left
    · (intro w hSw; go_simp; try with_reducible rfl)
    simp only [Act.put, List.setIfInBounds_toArray, List.set_cons_zero, List.set_cons_succ]
    refine wpAnyH_take (i := 4) (v := ?_) rfl (by kernel_rfl) (by kernel_rfl) (by kernel_rfl) (fun _ _ _ h => h) (Or.inl ⟨by rfl, ?_⟩) (by assumption) ?_
    rotate_left
    · (intro w hSw; go_simp; try with_reducible rfl)
    simp only [Act.put, List.setIfInBounds_toArray, List.set_cons_zero, List.set_cons_succ]
    refine wpAnyH_take (i := 7) (v := ?_) rfl (by kernel_rfl) (by kernel_rfl) (by kernel_rfl) (fun _ _ _ h => h) (Or.inl ⟨by rfl, ?_⟩) (by assumption) ?_
    rotate_left
    · (intro w hSw; go_simp; try with_reducible rfl)
    simp only [Act.put, List.setIfInBounds_toArray, List.set_cons_zero, List.set_cons_succ]
    refine wpAnyH_take (i := 8) (v := ?_) rfl (by kernel_rfl) (by kernel_rfl) (by kernel_rfl) (fun _ _ _ h => h) (Or.inl ⟨by rfl, ?_⟩) (by assumption) ?_
    rotate_left
    · (intro w hSw; go_simp; try with_reducible rfl)
    simp only [Act.put, List.setIfInBounds_toArray, List.set_cons_zero, List.set_cons_succ]
    refine wpAnyH_take (i := 9) (v := ?_) rfl (by kernel_rfl) (by kernel_rfl) (by kernel_rfl) (fun _ _ _ h => h) (Or.inl ⟨by rfl, ?_⟩) (by assumption) ?_
    rotate_left
    · (intro w hSw; go_simp; try with_reducible rfl)
    simp only [Act.put, List.setIfInBounds_toArray, List.set_cons_zero, List.set_cons_succ]
    refine wpAnyH_ready (rs := [0, 5]) (by kernel_rfl) (by simp) ?_
    refine (AllReadyH.cons rfl (fun K hK => ?armA) (AllReadyH.cons rfl (fun K hK => ?armB) AllReadyH.nil))
    case armA =>
      go_simp
      change K _ ((w5.drew).alloc (.cells #[] 9))
      obtain ⟨WA, hWA⟩ : ∃ W, (w5.drew).alloc (.cells #[] 9) = W := ⟨_, rfl⟩
      have bA : Below w5.heap.size w5 WA := by rw [← hWA]; exact ((Below.refl _ w5).drew).alloc (by first | exact Nat.le_refl _ | exact ((Below.refl _ w5).drew).size) _
      have hownA : WA.ownsRow w5.heap.size 9 1 (.slice (some ⟨w5.heap.size, 0, none⟩) 0 0) 0 [] := by rw [← hWA]; exact World.ownsRow_lit w5.drew #[] 0 (Nat.le_refl _) (by unfold maxLen; omega) rfl
      have hz0 : w5.heap.size ≤ w5.heap.size := Nat.le_refl _
      rw [hWA]
      refine hK.out _ _ (hS7 WA bA) (fun hHeld => ?_)
      clear hK K
      refine wpAnyH_ready (rs := [2, 5]) (by kernel_rfl) (by simp) ?_
      refine (AllReadyH.cons rfl (fun K hK => ?armC) (AllReadyH.cons rfl (fun K hK => ?armD) AllReadyH.nil))
      case armC =>
        obtain ⟨v35, WC, hrun3, hown3, hg3⟩ := AppT.app_texts (w := WA) (B := w5.heap.size) hownA (XS.out WA (c5.trans (bA.mono c5.size))) HRC.out (by rw [HM.out]; omega) bA.size
        rw [HM.out, Nat.zero_add, List.nil_append] at hown3
        have bC : Below w5.heap.size w5 WC := bA.grown hg3 bA.size (fun k e => by cases e; exact hz0)
        refine step_append_own rfl _ _ 27 rfl _ _ _ _ rfl rfl hrun3 ?_
        refine hK.out _ _ (hS7 WC bC) (fun hHeld => ?_)
        clear hK K
        refine wpAnyH_ready (rs := [5]) (by kernel_rfl) (by simp) ?_
        refine (AllReadyH.cons rfl (fun K hK => ?_) AllReadyH.nil)
        go_simp
        change K _ (WC.alloc (.cells #[.string x.path, .string gap] 9))
        obtain ⟨WE, hWE⟩ : ∃ W, WC.alloc (.cells #[.string x.path, .string gap] 9) = W := ⟨_, rfl⟩
        have bE : Below w5.heap.size w5 WE := by rw [← hWE]; exact bC.alloc (by first | exact Nat.le_refl _ | exact bC.size) _
        have hxE : Bx WE WC.heap.size #[.string x.path, .string gap] 9 := by rw [← hWE]; exact Bx.new WC _ _
        have hown3 := hown3.alloc (.cells #[.string x.path, .string gap] 9)
        rw [hWE] at hown3
        rw [hWE]
        refine hK.out _ _ (hS7 WE bE) (fun hHeld => ?_)
        clear hK K
        refine wpAnyH_ready (rs := [6]) (by kernel_rfl) (by simp) ?_
        refine (AllReadyH.cons rfl (fun K hK => ?_) AllReadyH.nil)
        obtain ⟨g4, k4, W4, hrun5, hown5, hg5, hk5⟩ := fin4 (w := WE) hown3 hxE (by omega) bE.size
        have b4 : Below w5.heap.size w5 W4 := bE.grown hg5 bE.size (fun k e => (hown3.lt k e).1)
        refine step_append_own rfl _ _ 27 rfl _ _ _ _ rfl rfl hrun5 ?_
        refine hK.out _ _ (hS7 W4 b4) (fun hHeld => ?_)
        clear hK K
        have hmk : (m : Int) + 1 ≤ (k4 : Int) := by omega
        refine wpAnyH_take (i := 10) (v := ?_) rfl (by kernel_rfl) (by kernel_rfl) (by kernel_rfl) (fun _ _ _ h => h) (Or.inl ⟨by rfl, ?_⟩) (by assumption) ?_
        rotate_left
        · (intro w hSw; go_simp; try with_reducible rfl)
        simp only [Act.put, List.setIfInBounds_toArray, List.set_cons_zero, List.set_cons_succ]
        refine wpAnyH_take (i := 11) (v := ?_) rfl (by kernel_rfl) (by kernel_rfl) (by kernel_rfl) (fun _ _ _ h => h) (Or.inl ⟨by rfl, ?_⟩) (by assumption) ?_
        rotate_left
        · (intro w hSw; go_simp; try with_reducible rfl)
        simp only [Act.put, List.setIfInBounds_toArray, List.set_cons_zero, List.set_cons_succ]
        refine wpAnyH_done (by kernel_rfl) ?_ _
        clear hHeld
        simp only [List.getElem_toArray, List.getElem_cons_zero, List.getElem_cons_succ, List.set_cons_zero, List.set_cons_succ, List.setIfInBounds_toArray]
        have HF := Lib.hid (show Below w5.heap.size w5 W4 ∧ W4.ownsRow w5.heap.size 9 1 (.slice (some ⟨g4, 0, none⟩) (m + 2) k4) (m + 2) (roots.map .string ++ [.string x.path, .string gap]) ∧ m + 2 ≤ k4 from ⟨b4, hown5, hk5⟩)
        revert HF
        generalize Value.slice (some ⟨w5.heap.size, 0, none⟩) 0 0 = z32
        generalize Value.slice (some ⟨WC.heap.size, 0, none⟩) 2 2 = z36
        generalize v35 = y35
        generalize g4 = yg
        generalize k4 = yk
        generalize W4 = yW
        revert yW yk yg y35 z36 z32
        exact h7.out
      case armD =>
        go_simp
        change K _ (WA.alloc (.cells #[.string x.path, .string gap] 9))
        obtain ⟨WD, hWD⟩ : ∃ W, WA.alloc (.cells #[.string x.path, .string gap] 9) = W := ⟨_, rfl⟩
        have bD : Below w5.heap.size w5 WD := by rw [← hWD]; exact bA.alloc (by first | exact Nat.le_refl _ | exact bA.size) _
        have hxD : Bx WD WA.heap.size #[.string x.path, .string gap] 9 := by rw [← hWD]; exact Bx.new WA _ _
        have hownD := hownA.alloc (.cells #[.string x.path, .string gap] 9)
        rw [hWD] at hownD
        have hsA := Lib.hid (show WA.heap.size = w5.heap.size + 1 by rw [← hWA]; simp)
        rw [hWD]
        refine hK.out _ _ (hS7 WD bD) (fun hHeld => ?_)
        clear hK K
        refine wpAnyH_ready (rs := [2]) (by kernel_rfl) (by simp) ?_
        refine (AllReadyH.cons rfl (fun K hK => ?_) AllReadyH.nil)
        obtain ⟨v35, WE, hrun3, hown3, hg3⟩ := AppT.app_texts (w := WD) (B := w5.heap.size) hownD (XS.out WD (c5.trans (bD.mono c5.size))) HRC.out (by rw [HM.out]; omega) bD.size
        rw [HM.out, Nat.zero_add, List.nil_append] at hown3
        have bE : Below w5.heap.size w5 WE := bD.grown hg3 bD.size (fun k e => by cases e; exact hz0)
        refine step_append_own rfl _ _ 27 rfl _ _ _ _ rfl rfl hrun3 ?_
        refine hK.out _ _ (hS7 WE bE) (fun hHeld => ?_)
        clear hK K
        have hxE : Bx WE WA.heap.size #[.string x.path, .string gap] 9 := (hg3.block WA.heap.size hxD.lt (fun e => by have h : WA.heap.size = w5.heap.size := Option.some.inj e; have h2 := hsA.out; omega)).trans hxD
        refine wpAnyH_ready (rs := [6]) (by kernel_rfl) (by simp) ?_
        refine (AllReadyH.cons rfl (fun K hK => ?_) AllReadyH.nil)
        obtain ⟨g4, k4, W4, hrun5, hown5, hg5, hk5⟩ := fin4 (w := WE) hown3 hxE (by omega) bE.size
        have b4 : Below w5.heap.size w5 W4 := bE.grown hg5 bE.size (fun k e => (hown3.lt k e).1)
        refine step_append_own rfl _ _ 27 rfl _ _ _ _ rfl rfl hrun5 ?_
        refine hK.out _ _ (hS7 W4 b4) (fun hHeld => ?_)
        clear hK K
        have hmk : (m : Int) + 1 ≤ (k4 : Int) := by omega
        refine wpAnyH_take (i := 10) (v := ?_) rfl (by kernel_rfl) (by kernel_rfl) (by kernel_rfl) (fun _ _ _ h => h) (Or.inl ⟨by rfl, ?_⟩) (by assumption) ?_
        rotate_left
        · (intro w hSw; go_simp; try with_reducible rfl)
        simp only [Act.put, List.setIfInBounds_toArray, List.set_cons_zero, List.set_cons_succ]
        refine wpAnyH_take (i := 11) (v := ?_) rfl (by kernel_rfl) (by kernel_rfl) (by kernel_rfl) (fun _ _ _ h => h) (Or.inl ⟨by rfl, ?_⟩) (by assumption) ?_
        rotate_left
        · (intro w hSw; go_simp; try with_reducible rfl)
        simp only [Act.put, List.setIfInBounds_toArray, List.set_cons_zero, List.set_cons_succ]
        refine wpAnyH_done (by kernel_rfl) ?_ _
        clear hHeld
        simp only [List.getElem_toArray, List.getElem_cons_zero, List.getElem_cons_succ, List.set_cons_zero, List.set_cons_succ, List.setIfInBounds_toArray]
        have HF := Lib.hid (show Below w5.heap.size w5 W4 ∧ W4.ownsRow w5.heap.size 9 1 (.slice (some ⟨g4, 0, none⟩) (m + 2) k4) (m + 2) (roots.map .string ++ [.string x.path, .string gap]) ∧ m + 2 ≤ k4 from ⟨b4, hown5, hk5⟩)
        revert HF
        generalize Value.slice (some ⟨w5.heap.size, 0, none⟩) 0 0 = z32
        generalize Value.slice (some ⟨WA.heap.size, 0, none⟩) 2 2 = z36
        generalize v35 = y35
        generalize g4 = yg
        generalize k4 = yk
        generalize W4 = yW
        revert yW yk yg y35 z36 z32
        exact h7.out
    case armB =>
      go_simp
      change K _ ((w5.drew).alloc (.cells #[.string x.path, .string gap] 9))
      obtain ⟨WB, hWB⟩ : ∃ W, (w5.drew).alloc (.cells #[.string x.path, .string gap] 9) = W := ⟨_, rfl⟩
      have bB : Below w5.heap.size w5 WB := by rw [← hWB]; exact ((Below.refl _ w5).drew).alloc (by first | exact Nat.le_refl _ | exact ((Below.refl _ w5).drew).size) _
      have hxB : Bx WB w5.heap.size #[.string x.path, .string gap] 9 := by rw [← hWB]; exact Bx.new w5.drew _ _
      have hsB := Lib.hid (show WB.heap.size = w5.heap.size + 1 by rw [← hWB]; simp)
      rw [hWB]
      refine hK.out _ _ (hS7 WB bB) (fun hHeld => ?_)
      clear hK K
      refine wpAnyH_ready (rs := [0]) (by kernel_rfl) (by simp) ?_
      refine (AllReadyH.cons rfl (fun K hK => ?_) AllReadyH.nil)
      go_simp
      change K _ (WB.alloc (.cells #[] 9))
      obtain ⟨WD, hWD⟩ : ∃ W, WB.alloc (.cells #[] 9) = W := ⟨_, rfl⟩
      have bD : Below w5.heap.size w5 WD := by rw [← hWD]; exact bB.alloc (by first | exact Nat.le_refl _ | exact bB.size) _
      have hxD : Bx WD w5.heap.size #[.string x.path, .string gap] 9 := by rw [← hWD]; exact hxB.alloc _
      have hownD : WD.ownsRow w5.heap.size 9 1 (.slice (some ⟨WB.heap.size, 0, none⟩) 0 0) 0 [] := by rw [← hWD]; exact World.ownsRow_lit WB #[] 0 bB.size (by unfold maxLen; omega) rfl
      have hz0 : w5.heap.size ≤ WB.heap.size := bB.size
      rw [hWD]
      refine hK.out _ _ (hS7 WD bD) (fun hHeld => ?_)
      clear hK K
      refine wpAnyH_ready (rs := [2]) (by kernel_rfl) (by simp) ?_
      refine (AllReadyH.cons rfl (fun K hK => ?_) AllReadyH.nil)
      obtain ⟨v35, WE, hrun3, hown3, hg3⟩ := AppT.app_texts (w := WD) (B := w5.heap.size) hownD (XS.out WD (c5.trans (bD.mono c5.size))) HRC.out (by rw [HM.out]; omega) bD.size
      rw [HM.out, Nat.zero_add, List.nil_append] at hown3
      have bE : Below w5.heap.size w5 WE := bD.grown hg3 bD.size (fun k e => by cases e; exact hz0)
      refine step_append_own rfl _ _ 27 rfl _ _ _ _ rfl rfl hrun3 ?_
      refine hK.out _ _ (hS7 WE bE) (fun hHeld => ?_)
      clear hK K
      have hxE : Bx WE w5.heap.size #[.string x.path, .string gap] 9 := (hg3.block w5.heap.size hxD.lt (fun e => by have h : w5.heap.size = WB.heap.size := Option.some.inj e; have h2 := hsB.out; omega)).trans hxD
      refine wpAnyH_ready (rs := [6]) (by kernel_rfl) (by simp) ?_
      refine (AllReadyH.cons rfl (fun K hK => ?_) AllReadyH.nil)
      obtain ⟨g4, k4, W4, hrun5, hown5, hg5, hk5⟩ := fin4 (w := WE) hown3 hxE (by omega) bE.size
      have b4 : Below w5.heap.size w5 W4 := bE.grown hg5 bE.size (fun k e => (hown3.lt k e).1)
      refine step_append_own rfl _ _ 27 rfl _ _ _ _ rfl rfl hrun5 ?_
      refine hK.out _ _ (hS7 W4 b4) (fun hHeld => ?_)
      clear hK K
      have hmk : (m : Int) + 1 ≤ (k4 : Int) := by omega
      refine wpAnyH_take (i := 10) (v := ?_) rfl (by kernel_rfl) (by kernel_rfl) (by kernel_rfl) (fun _ _ _ h => h) (Or.inl ⟨by rfl, ?_⟩) (by assumption) ?_
      rotate_left
      · (intro w hSw; go_simp; try with_reducible rfl)
      simp only [Act.put, List.setIfInBounds_toArray, List.set_cons_zero, List.set_cons_succ]
      refine wpAnyH_take (i := 11) (v := ?_) rfl (by kernel_rfl) (by kernel_rfl) (by kernel_rfl) (fun _ _ _ h => h) (Or.inl ⟨by rfl, ?_⟩) (by assumption) ?_
      rotate_left
      · (intro w hSw; go_simp; try with_reducible rfl)
      simp only [Act.put, List.setIfInBounds_toArray, List.set_cons_zero, List.set_cons_succ]
      refine wpAnyH_done (by kernel_rfl) ?_ _
      clear hHeld
      simp only [List.getElem_toArray, List.getElem_cons_zero, List.getElem_cons_succ, List.set_cons_zero, List.set_cons_succ, List.setIfInBounds_toArray]
      have HF := Lib.hid (show Below w5.heap.size w5 W4 ∧ W4.ownsRow w5.heap.size 9 1 (.slice (some ⟨g4, 0, none⟩) (m + 2) k4) (m + 2) (roots.map .string ++ [.string x.path, .string gap]) ∧ m + 2 ≤ k4 from ⟨b4, hown5, hk5⟩)
      revert HF
      generalize Value.slice (some ⟨WB.heap.size, 0, none⟩) 0 0 = z32
      generalize Value.slice (some ⟨w5.heap.size, 0, none⟩) 2 2 = z36
      generalize v35 = y35
      generalize g4 = yg
      generalize k4 = yk
      generalize W4 = yW
      revert yW yk yg y35 z36 z32
      exact h7.out
  case tail7 =>
    refine Lib.hid ?_
    intro z32 z36 y35 g6 k6 w6 HF
    clear hS7 hS0
    have c6 := c5.trans (HF.out.1.mono c5.size)
    have z56 : w5.heap.size ≤ w6.heap.size := HF.out.1.size
    have hk6 : m + 2 ≤ k6 := HF.out.2.2
    have RO6 := Lib.hid HF.out.2.1
    have HRW := Lib.hid (show ∀ W : World, W.ownsRow w5.heap.size 9 1 (.slice (some ⟨g6, 0, none⟩) (m + 2) k6) (m + 2) (roots.map .string ++ [.string x.path, .string gap]) → W.cell? ⟨g6, m + 1, none⟩ = some (.string ⟨#[103, 97, 112]⟩) ∧ Strs (fun b => b < W.heap.size) W (.slice (some ⟨g6, 0, none⟩) m k6) roots ∧ Strs (fun b => b < W.heap.size) W (.slice (some ⟨g6, 0, none⟩) (m + 1) k6) (roots ++ [x.path]) from fun W h => by
      have hc : ∀ j, j < m + 2 → W.cell? ⟨g6, j, none⟩ = (roots.map Value.string ++ [Value.string x.path, Value.string gap])[j]? := fun j hj => h.cellAt j (by omega)
      have hcap : k6 ≤ maxLen := by
        rcases h.2 with ⟨h', _⟩ | ⟨g', cap', cur, h', _, _, _, hcm, _⟩
        · cases h'
        · cases h'; exact hcm
      have hcell : ∀ j, (hj : j < roots.length) → W.cell? ⟨g6, j, none⟩ = some (.string roots[j]) := fun j hj => by
        have hj2 : j < m := by rw [HM.out] at hj; exact hj
        rw [hc j (by omega), List.getElem?_append_left (by rw [List.length_map]; exact hj), List.getElem?_map, List.getElem?_eq_getElem hj]; rfl
      have hlm := HM.out
      refine ⟨?_, ⟨some ⟨g6, 0, none⟩, k6, by rw [HM.out], by rw [HM.out]; omega, hcap, .inr ⟨g6, 0, rfl, (h.lt g6 rfl).2, fun j hj => by rw [Nat.zero_add]; exact hcell j hj⟩⟩, ⟨some ⟨g6, 0, none⟩, k6, by simp [HM.out], by simp [HM.out]; omega, hcap, .inr ⟨g6, 0, rfl, (h.lt g6 rfl).2, fun j hj => ?_⟩⟩⟩
      · rw [hc (m + 1) (by omega), List.getElem?_append_right (by rw [List.length_map, HM.out]; omega), List.length_map, HM.out, show m + 1 - m = 1 by omega]; rfl
      · rw [Nat.zero_add]
        simp only [List.length_append, List.length_cons, List.length_nil] at hj
        by_cases hlt : j < roots.length
        · rw [hcell j hlt, List.getElem_append_left hlt]
        · have hje : j = m := by omega
          subst hje
          rw [hc j (by omega), List.getElem?_append_right (by rw [List.length_map, HM.out]; omega), List.length_map, HM.out, Nat.sub_self, List.getElem_append_right (by omega)]
          simp [HM.out])
    have H6 := Lib.hid (H5.out.below HF.out.1)
    have GM6 := Lib.hid (GM5.out.below HF.out.1)
    have HPS := Lib.hid (show ∀ p, Rch [x] (roots ++ [x.path]) p → p.size ≤ 4194304 from fun p hp => rch_size (fun q hq => by
        rcases List.mem_append.1 hq with h | h
        · have := mem_bulks h; have := HB2.out; omega
        · simp only [List.mem_cons, List.not_mem_nil, or_false] at h
          subst h
          unfold Rec.bulk at hbx
          omega) (fun r hr q hq => by
        simp only [List.mem_cons, List.not_mem_nil, or_false] at hr
        subst hr
        have := mem_bulks hq
        have := HB2.out
        omega) hp)
    have HWT := Lib.hid (show (roots ++ [x.path]).length + wt (fun _ => none) [x] ≤ 1099511627776 by
      have h1 := length_bulks x.refs
      have h2 := HM.out
      have h3 := HB2.out
      simp [wt]
      omega)
    go_wp2_with fail
    refine (closureC M5 F5 _ s1 [x] _ (roots ++ [x.path]) w6 H6.out (by simp) (HRW.out w6 RO6.out).2.2 HWT.out (fun p hp => by have := HPS.out p hp; unfold maxLen; omega)).mono ?_
    rintro e w7 ⟨d7, hor⟩
    have c7 := c6.trans (d7.mono c6.size)
    have RO7 := Lib.hid (Copy.own_below RO6.out d7)
    have H7 := Lib.hid (H6.out.below d7)
    have GM7 := Lib.hid (GM6.out.below d7)
    have z67 : w6.heap.size ≤ w7.heap.size := d7.size
    clear d7
    obtain ⟨v7, n7, rfl⟩ : ∃ v n, e = .returned (.tuple #[v, .int .i64 n]) := by
      rcases hor with ⟨q, _, _, h⟩ | ⟨v, L, h, _⟩
      · exact ⟨_, _, h⟩
      · exact ⟨_, _, h⟩
    clear hor
    go_wp2_with fail
    refine (orderC M5 F5 _ s1 [x] _ (roots ++ [x.path]) w7 H7.out (by simp) (HRW.out w7 RO7.out).2.2 HWT.out (fun p hp => by have := HPS.out p hp; unfold maxLen; omega)).mono ?_
    rintro e w8 ⟨d8, hor⟩
    have c8 := c7.trans (d8.mono c7.size)
    have RO8 := Lib.hid (Copy.own_below RO7.out d8)
    have H8 := Lib.hid (H7.out.below d8)
    have GM8 := Lib.hid (GM7.out.below d8)
    have z68 : w6.heap.size ≤ w8.heap.size := Nat.le_trans z67 d8.size
    clear d8
    obtain ⟨v8, n8, rfl⟩ : ∃ v n, e = .returned (.tuple #[v, .int .i64 n]) := by
      rcases hor with ⟨q, _, _, h⟩ | ⟨v, gs, out, h, _⟩
      · exact ⟨_, _, h⟩
      · exact ⟨_, _, h⟩
    clear hor
    have r8 := GM8.out.rng
    have r8a := XR.out w8 c8
    go_wp2_with (first | (refine wpList_load_mid rfl 31 _ (by rfl) (w3.heap.size) 0 (by rfl) cm _ r8 Tryz.underlying31 rfl (by rw [hcml]; kernel_rfl) ?_) | (refine wpList_load_mid rfl 31 _ (by rfl) (w.heap.size) 0 (by rfl) cs _ r8a Tryz.underlying31 rfl (by rw [hcl]; kernel_rfl) ?_))
    refine (rsameC _ _ x x cm cs w8 GM8.out.recAt (XA.out w8 c8) (by omega)).mono ?_
    rintro e w9 ⟨rfl, d9⟩
    rw [show eqR x x = true from decide_eq_true rfl]
    have c9 := c8.trans (d9.mono c8.size)
    have RO9 := Lib.hid (Copy.own_below RO8.out d9)
    have H9 := Lib.hid (H8.out.below d9)
    have GM9 := Lib.hid (GM8.out.below d9)
    have z69 : w6.heap.size ≤ w9.heap.size := Nat.le_trans z68 d9.size
    clear d9 r8 r8a
    have cg9 := (HRW.out w9 RO9.out).1
    have hwm2 : IntKind.i64.wrap ((m : Int) + 2) = (m : Int) + 2 := by rw [IntKind.wrap_i64]; omega
    have hm1 : (0 : Int) ≤ (m : Int) + 2 := by omega
    have hm2 : (m : Int) + 2 ≤ (k6 : Int) := by omega
    have hm3 : (m : Int) + 1 < (m : Int) + 2 := by omega
    have hr1 : Texts.Reads w9 (.slice (some ⟨g6, 0, none⟩) m k6) roots := (HRW.out w9 RO9.out).2.1.reads
    have hr2 : Texts.Reads w9 (.slice ao m cap) roots := (XS.out w9 c9).reads
    go_wp2_with fail
    refine (Texts.texts w9 _ _ roots roots hr1 hr2).mono ?_
    rintro e w10 ⟨rfl, sm⟩
    rw [show decide (roots = roots) = true from decide_eq_true rfl]
    have d10 : Below w9.heap.size w9 w10 := sm.below (Below.refl _ _)
    have c10 := c9.trans (d10.mono c9.size)
    have H10 := Lib.hid (H9.out.below d10)
    have GM10 := Lib.hid (GM9.out.below d10)
    have z10 : w5.heap.size ≤ w10.heap.size := Nat.le_trans z56 (Nat.le_trans z69 d10.size)
    clear hr1 hr2 sm d10 cg9 hwm2 hm1 hm2 hm3 hwm hm0 z67 z68 z69 z56
    have hnl : x.refs.length ≤ 1048576 := by have := length_bulks x.refs; have := HB2.out; omega
    have hbt : x.tree.bulk ≤ 4194304 := by unfold Rec.bulk at hbx; omega
    obtain ⟨a1, k1, a2, k2, SA, SB, p1, p2, p3, p4, p5, sA, sB, dAB, hsk, hsr⟩ := GM10.out.parts
    have HTH := Lib.hid (Thr.of hsr)
    have HSA := Lib.hid sA
    have HSB := Lib.hid sB
    have HDJ := Lib.hid dAB
    have P5 := Lib.hid p5
    clear hsr sA sB dAB p5
    go_wp2_with fail
    refine (Spoil.spoilC SA x.tree _ w10 hsk hbt).mono ?_
    rintro e w11 ⟨rfl, kp⟩
    clear p1 p2 p3 p4 hsk
    have c11 := c10.trans (kp.below c10.size (fun i hi hm => by have := HSA.out i hm; have := c2.size; omega))
    have H11 := Lib.hid (H10.out.kp kp (fun b hb hm => by have h1 := HSA.out b hm; have h2 := HB5.out b (.inl hb); omega) (fun b hb hm => by have h1 := HSA.out b hm; have h2 := HB5.out b (.inr hb); omega))
    have zc11 : w10.heap.size ≤ w11.heap.size := kp.size
    have bM : w3.heap.size < w10.heap.size := World.block_lt_of_cell? w10 _ P5.out
    have p5 : w11.cell? ⟨w3.heap.size, 5, none⟩ = some (.slice a2 x.refs.length k2) := by rw [kp.cell (p := ⟨w3.heap.size, 5, none⟩) bM (fun h => (HSA.out _ h).2.2 rfl)]; exact P5.out
    have bM11 : w3.heap.size < w11.heap.size := World.block_lt_of_cell? w11 _ p5
    have P11 := Lib.hid p5
    have T11 := Lib.hid (HTH.out.kp kp (fun q h1 h2 => HDJ.out q h2 h1))
    clear kp bM
    go_wp2_with fail
    clear p5
    go_loopw [8, 90] (fun _ i wr => ∃ k : Nat, k ≤ x.refs.length ∧ i = .int .i64 k ∧ Kp SB w11 wr ∧ Thr SB wr a2 x.refs.length) (fun _ i _ => x.refs.length - (intOf i).toNat)
    case atStart => exact ⟨0, Nat.zero_le _, rfl, Kp.refl _ _, T11.out⟩
    case round =>
      obtain ⟨k, hk, rfl, kj, tj⟩ := hrel
      have e0 : (0 : Int) ≤ (k : Int) := Int.natCast_nonneg _
      have p5 : wr.cell? ⟨w3.heap.size, 5, none⟩ = some (.slice a2 x.refs.length k2) := by rw [kj.cell (p := ⟨w3.heap.size, 5, none⟩) bM11 (fun h => (HSB.out _ h).2.2 rfl)]; exact P11.out
      by_cases hlt : k < x.refs.length
      · obtain ⟨b, off, u, ea, hsb, hcu, hfr⟩ := tj.at hlt
        have e1 : (k : Int) < ((x.refs.length : Nat) : Int) := by omega
        have HRL := Lib.hid (kj.setCell ⟨b, off + k, none⟩ (.string Spoil.spoilt) (fun _ => hsb))
        have HTR := Lib.hid (tj.set b (off + k) (.string Spoil.spoilt))
        subst ea
        clear kj tj
        go_wp2_with fail
        go_roundw
        case rel => exact ⟨k + 1, by omega, by go_num, HRL.out, HTR.out⟩
        case measure => simp [intOf]; omega
      · have hkn : k = x.refs.length := by omega
        subst hkn
        generalize wr = w12 at *
        have c12 := c11.trans (kj.below c11.size (fun i hi hm => by have := HSB.out i hm; have := c2.size; omega))
        have H12 := Lib.hid (H11.out.kp kj (fun b hb hm => by have h1 := HSB.out b hm; have h2 := HB5.out b (.inl hb); omega) (fun b hb hm => by have h1 := HSB.out b hm; have h2 := HB5.out b (.inr hb); omega))
        have zc12 : w11.heap.size ≤ w12.heap.size := kj.size
        clear kj tj e0 p5 hlt hk
        have HPC := Lib.hid (show ∀ (W : World), Below w0.heap.size w0 W → ∀ W', Below W.heap.size W W' → W'.cell? ⟨w.heap.size, 0, none⟩ = some (.string x.path) from fun W h W' hb => by
          have h := XR.out W' (h.trans (hb.mono h.size)) 0 _ (List.getElem?_eq_getElem (show 0 < cs.length by omega))
          rw [HP.out] at h
          exact h)
        have z12 : w5.heap.size ≤ w12.heap.size := Nat.le_trans z10 (Nat.le_trans zc11 zc12)
        have hget : ∀ W, Below w12.heap.size w12 W → Calls Tryz.prog 23 #[.pointer (some ⟨s1, 0, none⟩), .string x.path] W fun e w' => Below W.heap.size W w' ∧ ∃ cs, e = .returned (.tuple #[.agg cs.toArray, .int .i64 0]) ∧ RecW (fun b => W.heap.size ≤ b) w' cs x := fun W hb => GetW.getC1 M5 F5 s1 x W (H12.out.below hb) (by omega)
        have hS := HPC.out w12 c12
        have hS0 := hS w12.drew (Below.refl _ w12).drew
        go_wp2_with fail
        refine (fun (hA : Go.RowKit.Hid ?PA) => ?mainA) ?tailA
        case mainA =>
          refine wp_region_held_drew (S := fun W' => W'.cell? ⟨w.heap.size, 0, none⟩ = some (.string x.path)) (by kernel_rfl) hS0 (fun hHeld => ?_)
          refine wpAnyH_take (i := 0) (v := ?_) rfl (by kernel_rfl) (by kernel_rfl) (by kernel_rfl) (fun _ _ _ h => h) (Or.inl ⟨by rfl, ?_⟩) (by assumption) ?_
          rotate_left
          · (intro w hSw; go_simp; try with_reducible rfl)
          simp only [Act.put, List.setIfInBounds_toArray, List.set_cons_zero, List.set_cons_succ]
          refine wpAnyH_take (i := 1) (v := ?_) rfl (by kernel_rfl) (by kernel_rfl) (by kernel_rfl) (fun _ _ _ h => h) (Or.inl ⟨by rfl, ?_⟩) (by assumption) ?_
          rotate_left
          · (intro w hSw; go_simp; try with_reducible rfl)
          simp only [Act.put, List.setIfInBounds_toArray, List.set_cons_zero, List.set_cons_succ]
          refine wpAnyH_take (i := 2) (v := ?_) rfl (by kernel_rfl) (by kernel_rfl) (by kernel_rfl) (fun _ _ _ h => h) (Or.inl ⟨by rfl, ?_⟩) (by assumption) ?_
          rotate_left
          · (intro w hSw; go_simp; try with_reducible rfl)
          simp only [Act.put, List.setIfInBounds_toArray, List.set_cons_zero, List.set_cons_succ]
          refine wpAnyH_take (i := 3) (v := ?_) rfl (by kernel_rfl) (by kernel_rfl) (by kernel_rfl) (fun _ _ _ h => h) (Or.inl ⟨by rfl, ?_⟩) (by assumption) ?_
          rotate_left
          · (intro w hSw; go_simp; try with_reducible rfl)
          simp only [Act.put, List.setIfInBounds_toArray, List.set_cons_zero, List.set_cons_succ]
          refine wpAnyH_take (i := 4) (v := ?_) rfl (by kernel_rfl) (by kernel_rfl) (by kernel_rfl) (fun _ _ _ h => h) (Or.inl ⟨by rfl, ?_⟩) (by assumption) ?_
          rotate_left
          · (intro w hSw; go_simp; try with_reducible rfl)
          simp only [Act.put, List.setIfInBounds_toArray, List.set_cons_zero, List.set_cons_succ]
          refine wpAnyH_ready (rs := [5, 9]) (by kernel_rfl) (by simp) ?_
          refine AllReadyH.cons rfl (fun K hK => ?armAA) (AllReadyH.cons rfl (fun K hK => ?armBA) AllReadyH.nil)
          case' armAA =>
            go_simp
            refine (hget w12.drew (Below.refl _ w12).drew).mono ?_
            rintro e wg3 ⟨b3, oc, rfl, hrec⟩
            have b3' : Below w12.heap.size w12 wg3 := Copy.below_undrew b3
            refine hK.out _ _ (hS wg3 b3') (fun hHeld => ?_)
            clear hK K
            refine wpAnyH_take (i := 6) (v := ?_) rfl (by kernel_rfl) (by kernel_rfl) (by kernel_rfl) (fun _ _ _ h => h) (Or.inl ⟨by rfl, ?_⟩) (by assumption) ?_
            rotate_left
            · (intro w hSw; go_simp; try with_reducible rfl)
            simp only [Act.put, List.setIfInBounds_toArray, List.set_cons_zero, List.set_cons_succ]
            refine wpAnyH_take (i := 7) (v := ?_) rfl (by kernel_rfl) (by kernel_rfl) (by kernel_rfl) (fun _ _ _ h => h) (Or.inl ⟨by rfl, ?_⟩) (by assumption) ?_
            rotate_left
            · (intro w hSw; go_simp; try with_reducible rfl)
            simp only [Act.put, List.setIfInBounds_toArray, List.set_cons_zero, List.set_cons_succ]
            refine wpAnyH_take (i := 8) (v := ?_) rfl (by kernel_rfl) (by kernel_rfl) (by kernel_rfl) (fun _ _ _ h => h) (Or.inl ⟨by rfl, ?_⟩) (by assumption) ?_
            rotate_left
            · (intro w hSw; go_simp; try with_reducible rfl)
            simp only [Act.put, List.setIfInBounds_toArray, List.set_cons_zero, List.set_cons_succ]
            refine wpAnyH_ready (rs := [9]) (by kernel_rfl) (by simp) ?_
            refine AllReadyH.cons rfl (fun K hK => ?_) AllReadyH.nil
            go_simp
            change K _ (wg3.alloc (.cells Ins.zeroRec.cells 31))
            obtain ⟨WN, hWN⟩ : ∃ W, wg3.alloc (.cells Ins.zeroRec.cells 31) = W := ⟨_, rfl⟩
            obtain ⟨bN3, xN⟩ := alloc_fact hWN
            have bN : Below w12.heap.size w12 WN := b3'.trans (bN3.mono b3'.size)
            rw [hWN]
            refine hK.out _ _ (hS WN bN) (fun hHeld => ?_)
            have nbl : w12.heap.size ≤ wg3.heap.size := b3'.size
            have hN : RecW (fun b => w12.heap.size ≤ b ∧ b ≠ wg3.heap.size) WN oc x := (hrec.sub (S' := fun b => w12.heap.size ≤ b ∧ b ≠ wg3.heap.size) (fun b h1 h => ⟨h, by omega⟩)).below bN3
            obtain ⟨nb, hnb2⟩ : ∃ nb, wg3.heap.size = nb := ⟨_, rfl⟩
            rw [hnb2] at xN nbl hN ⊢
            clear hK K hnb2 hWN bN3 hrec b3' b3
          case' armBA =>
            go_simp
            change K _ (w12.alloc (.cells Ins.zeroRec.cells 31)).drew
            obtain ⟨wg4, hwg4⟩ : ∃ W, (w12.alloc (.cells Ins.zeroRec.cells 31)).drew = W := ⟨_, rfl⟩
            have x4 : Bx wg4 w12.heap.size Ins.zeroRec.cells 31 := by rw [← hwg4]; exact Bx.new w12 Ins.zeroRec.cells 31
            have b4 : Below w12.heap.size w12 wg4 := by rw [← hwg4]; exact ((Below.refl _ w12).alloc (Nat.le_refl _) _).drew
            rw [hwg4]
            refine hK.out _ _ (hS wg4 b4) (fun hHeld => ?_)
            obtain ⟨nb, hnb2⟩ : ∃ nb, w12.heap.size = nb := ⟨_, rfl⟩
            rw [hnb2]
            clear hK K hwg4
            refine wpAnyH_ready (rs := [5]) (by kernel_rfl) (by simp) ?_
            refine AllReadyH.cons rfl (fun K hK => ?_) AllReadyH.nil
            go_simp
            refine (hget wg4 b4).mono ?_
            rintro e WN ⟨b5, oc, rfl, hrecN⟩
            have bN : Below w12.heap.size w12 WN := b4.trans (b5.mono b4.size)
            refine hK.out _ _ (hS WN bN) (fun hHeld => ?_)
            clear hK K
            refine wpAnyH_take (i := 6) (v := ?_) rfl (by kernel_rfl) (by kernel_rfl) (by kernel_rfl) (fun _ _ _ h => h) (Or.inl ⟨by rfl, ?_⟩) (by assumption) ?_
            rotate_left
            · (intro w hSw; go_simp; try with_reducible rfl)
            simp only [Act.put, List.setIfInBounds_toArray, List.set_cons_zero, List.set_cons_succ]
            refine wpAnyH_take (i := 7) (v := ?_) rfl (by kernel_rfl) (by kernel_rfl) (by kernel_rfl) (fun _ _ _ h => h) (Or.inl ⟨by rfl, ?_⟩) (by assumption) ?_
            rotate_left
            · (intro w hSw; go_simp; try with_reducible rfl)
            simp only [Act.put, List.setIfInBounds_toArray, List.set_cons_zero, List.set_cons_succ]
            refine wpAnyH_take (i := 8) (v := ?_) rfl (by kernel_rfl) (by kernel_rfl) (by kernel_rfl) (fun _ _ _ h => h) (Or.inl ⟨by rfl, ?_⟩) (by assumption) ?_
            rotate_left
            · (intro w hSw; go_simp; try with_reducible rfl)
            simp only [Act.put, List.setIfInBounds_toArray, List.set_cons_zero, List.set_cons_succ]
            have xN := x4.below b5
            have nbl : w12.heap.size ≤ nb := by omega
            have l4 := x4.lt
            have hN : RecW (fun b => w12.heap.size ≤ b ∧ b ≠ nb) WN oc x := hrecN.sub (fun b _ h => ⟨by omega, by omega⟩)
            rw [hnb2] at xN
            clear hnb2 x4 b4 b5 l4 hrecN
          all_goals
            have hol := hN.rec.length
            have hoo := Tab.recOne hN.rec
            refine wpAnyH_ready (rs := [10]) (by kernel_rfl) (by simp) ?_
            refine AllReadyH.cons rfl (fun K hK => ?_) AllReadyH.nil
            rw [if_pos (by rfl)]
            refine wp_store_mid 31 _ _ (by rfl) nb 0 oc.toArray (by rfl) (by rfl) ?_ ?_ ?_ ?_
            · exact xN.there oc.toArray.size (by rw [show oc.toArray.size = 39 by simpa using hol]; rfl)
            · rw [List.size_toArray, hol]; kernel_rfl
            · exact all_oneCell_toArray hoo
            refine Mem.named ?_
            intro WS hWS
            have hW2 : WN.setCells nb 0 oc = WS := hWS
            have bW : Below w12.heap.size w12 WS := by rw [← hW2]; exact Tab.below_setCells nbl _ _ bN (Nat.le_refl _)
            have rW : WS.rangeAt nb 0 oc := by rw [← hW2]; exact World.rangeAt_setCells_same _ _ _ _ (xN.there _ (by rw [hol]; rfl))
            have kW : Kp (fun b => b = nb) WN WS := by rw [← hW2]; exact kp_setCells (M := fun b => b = nb) (fun _ => rfl) _ _ (Kp.refl _ WN)
            have lW : nb < WS.heap.size := Nat.lt_of_lt_of_le xN.lt kW.size
            have HF := Lib.hid (show GotR WS w12.heap.size WS.heap.size nb oc x ∧ Below w12.heap.size w12 WS from ⟨{ rng := rW, ge := nbl, lt := lW, le := Nat.le_refl _, rcd := (hN.ag kW.size (Ag.of_kp kW (fun q _ hq e => hq.2 e))).sub (fun q hq h => ⟨h.1, hq, h.2⟩) }, bW⟩)
            refine hK.out _ _ (hS WS bW) (fun hHeld => ?_)
            clear hK K hWS hW2 rW kW lW
            refine wpAnyH_take (i := 11) (v := ?_) rfl (by kernel_rfl) (by kernel_rfl) (by kernel_rfl) (fun _ _ _ h => h) (Or.inl ⟨by rfl, ?_⟩) (by assumption) ?_
            rotate_left
            · (intro w hSw; go_simp; try with_reducible rfl)
            simp only [Act.put, List.setIfInBounds_toArray, List.set_cons_zero, List.set_cons_succ]
            refine wpAnyH_done (by kernel_rfl) ?_ _
            clear hHeld
            simp only [List.getElem_toArray, List.getElem_cons_zero, List.getElem_cons_succ, List.set_cons_zero, List.set_cons_succ, List.setIfInBounds_toArray]
            clear hol hoo hN nbl bN bW xN
            revert HF
            generalize nb = ynb
            generalize oc = yoc
            generalize WS = yW
            revert yW yoc ynb
            exact hA.out
        case tailA =>
          refine Lib.hid ?_
          intro nA oA w13 HFA
          clear hS hS0 hget
          have c13 := c12.trans (HFA.out.2.mono c12.size)
          have H13 := Lib.hid (H12.out.below HFA.out.2)
          have zc13 : w12.heap.size ≤ w13.heap.size := HFA.out.2.size
          have hget : ∀ W, Below w13.heap.size w13 W → Calls Tryz.prog 23 #[.pointer (some ⟨s1, 0, none⟩), .string x.path] W fun e w' => Below W.heap.size W w' ∧ ∃ cs, e = .returned (.tuple #[.agg cs.toArray, .int .i64 0]) ∧ RecW (fun b => W.heap.size ≤ b) w' cs x := fun W hb => GetW.getC1 M5 F5 s1 x W (H13.out.below hb) (by omega)
          have hS := HPC.out w13 c13
          have hS0 := hS w13.drew (Below.refl _ w13).drew
          go_wp2_with fail
          refine (fun (hB : Go.RowKit.Hid ?PB) => ?mainB) ?tailB
          case mainB =>
            refine wp_region_held_drew (S := fun W' => W'.cell? ⟨w.heap.size, 0, none⟩ = some (.string x.path)) (by kernel_rfl) hS0 (fun hHeld => ?_)
            refine wpAnyH_take (i := 0) (v := ?_) rfl (by kernel_rfl) (by kernel_rfl) (by kernel_rfl) (fun _ _ _ h => h) (Or.inl ⟨by rfl, ?_⟩) (by assumption) ?_
            rotate_left
            · (intro w hSw; go_simp; try with_reducible rfl)
            simp only [Act.put, List.setIfInBounds_toArray, List.set_cons_zero, List.set_cons_succ]
            refine wpAnyH_take (i := 1) (v := ?_) rfl (by kernel_rfl) (by kernel_rfl) (by kernel_rfl) (fun _ _ _ h => h) (Or.inl ⟨by rfl, ?_⟩) (by assumption) ?_
            rotate_left
            · (intro w hSw; go_simp; try with_reducible rfl)
            simp only [Act.put, List.setIfInBounds_toArray, List.set_cons_zero, List.set_cons_succ]
            refine wpAnyH_take (i := 2) (v := ?_) rfl (by kernel_rfl) (by kernel_rfl) (by kernel_rfl) (fun _ _ _ h => h) (Or.inl ⟨by rfl, ?_⟩) (by assumption) ?_
            rotate_left
            · (intro w hSw; go_simp; try with_reducible rfl)
            simp only [Act.put, List.setIfInBounds_toArray, List.set_cons_zero, List.set_cons_succ]
            refine wpAnyH_take (i := 3) (v := ?_) rfl (by kernel_rfl) (by kernel_rfl) (by kernel_rfl) (fun _ _ _ h => h) (Or.inl ⟨by rfl, ?_⟩) (by assumption) ?_
            rotate_left
            · (intro w hSw; go_simp; try with_reducible rfl)
            simp only [Act.put, List.setIfInBounds_toArray, List.set_cons_zero, List.set_cons_succ]
            refine wpAnyH_take (i := 4) (v := ?_) rfl (by kernel_rfl) (by kernel_rfl) (by kernel_rfl) (fun _ _ _ h => h) (Or.inl ⟨by rfl, ?_⟩) (by assumption) ?_
            rotate_left
            · (intro w hSw; go_simp; try with_reducible rfl)
            simp only [Act.put, List.setIfInBounds_toArray, List.set_cons_zero, List.set_cons_succ]
            refine wpAnyH_ready (rs := [5, 9]) (by kernel_rfl) (by simp) ?_
            refine AllReadyH.cons rfl (fun K hK => ?armAB) (AllReadyH.cons rfl (fun K hK => ?armBB) AllReadyH.nil)
            case' armAB =>
              go_simp
              refine (hget w13.drew (Below.refl _ w13).drew).mono ?_
              rintro e wg3 ⟨b3, oc, rfl, hrec⟩
              have b3' : Below w13.heap.size w13 wg3 := Copy.below_undrew b3
              refine hK.out _ _ (hS wg3 b3') (fun hHeld => ?_)
              clear hK K
              refine wpAnyH_take (i := 6) (v := ?_) rfl (by kernel_rfl) (by kernel_rfl) (by kernel_rfl) (fun _ _ _ h => h) (Or.inl ⟨by rfl, ?_⟩) (by assumption) ?_
              rotate_left
              · (intro w hSw; go_simp; try with_reducible rfl)
              simp only [Act.put, List.setIfInBounds_toArray, List.set_cons_zero, List.set_cons_succ]
              refine wpAnyH_take (i := 7) (v := ?_) rfl (by kernel_rfl) (by kernel_rfl) (by kernel_rfl) (fun _ _ _ h => h) (Or.inl ⟨by rfl, ?_⟩) (by assumption) ?_
              rotate_left
              · (intro w hSw; go_simp; try with_reducible rfl)
              simp only [Act.put, List.setIfInBounds_toArray, List.set_cons_zero, List.set_cons_succ]
              refine wpAnyH_take (i := 8) (v := ?_) rfl (by kernel_rfl) (by kernel_rfl) (by kernel_rfl) (fun _ _ _ h => h) (Or.inl ⟨by rfl, ?_⟩) (by assumption) ?_
              rotate_left
              · (intro w hSw; go_simp; try with_reducible rfl)
              simp only [Act.put, List.setIfInBounds_toArray, List.set_cons_zero, List.set_cons_succ]
              refine wpAnyH_ready (rs := [9]) (by kernel_rfl) (by simp) ?_
              refine AllReadyH.cons rfl (fun K hK => ?_) AllReadyH.nil
              go_simp
              change K _ (wg3.alloc (.cells Ins.zeroRec.cells 31))
              obtain ⟨WN, hWN⟩ : ∃ W, wg3.alloc (.cells Ins.zeroRec.cells 31) = W := ⟨_, rfl⟩
              obtain ⟨bN3, xN⟩ := alloc_fact hWN
              have bN : Below w13.heap.size w13 WN := b3'.trans (bN3.mono b3'.size)
              rw [hWN]
              refine hK.out _ _ (hS WN bN) (fun hHeld => ?_)
              have nbl : w13.heap.size ≤ wg3.heap.size := b3'.size
              have hN : RecW (fun b => w13.heap.size ≤ b ∧ b ≠ wg3.heap.size) WN oc x := (hrec.sub (S' := fun b => w13.heap.size ≤ b ∧ b ≠ wg3.heap.size) (fun b h1 h => ⟨h, by omega⟩)).below bN3
              obtain ⟨nb, hnb2⟩ : ∃ nb, wg3.heap.size = nb := ⟨_, rfl⟩
              rw [hnb2] at xN nbl hN ⊢
              clear hK K hnb2 hWN bN3 hrec b3' b3
            case' armBB =>
              go_simp
              change K _ (w13.alloc (.cells Ins.zeroRec.cells 31)).drew
              obtain ⟨wg4, hwg4⟩ : ∃ W, (w13.alloc (.cells Ins.zeroRec.cells 31)).drew = W := ⟨_, rfl⟩
              have x4 : Bx wg4 w13.heap.size Ins.zeroRec.cells 31 := by rw [← hwg4]; exact Bx.new w13 Ins.zeroRec.cells 31
              have b4 : Below w13.heap.size w13 wg4 := by rw [← hwg4]; exact ((Below.refl _ w13).alloc (Nat.le_refl _) _).drew
              rw [hwg4]
              refine hK.out _ _ (hS wg4 b4) (fun hHeld => ?_)
              obtain ⟨nb, hnb2⟩ : ∃ nb, w13.heap.size = nb := ⟨_, rfl⟩
              rw [hnb2]
              clear hK K hwg4
              refine wpAnyH_ready (rs := [5]) (by kernel_rfl) (by simp) ?_
              refine AllReadyH.cons rfl (fun K hK => ?_) AllReadyH.nil
              go_simp
              refine (hget wg4 b4).mono ?_
              rintro e WN ⟨b5, oc, rfl, hrecN⟩
              have bN : Below w13.heap.size w13 WN := b4.trans (b5.mono b4.size)
              refine hK.out _ _ (hS WN bN) (fun hHeld => ?_)
              clear hK K
              refine wpAnyH_take (i := 6) (v := ?_) rfl (by kernel_rfl) (by kernel_rfl) (by kernel_rfl) (fun _ _ _ h => h) (Or.inl ⟨by rfl, ?_⟩) (by assumption) ?_
              rotate_left
              · (intro w hSw; go_simp; try with_reducible rfl)
              simp only [Act.put, List.setIfInBounds_toArray, List.set_cons_zero, List.set_cons_succ]
              refine wpAnyH_take (i := 7) (v := ?_) rfl (by kernel_rfl) (by kernel_rfl) (by kernel_rfl) (fun _ _ _ h => h) (Or.inl ⟨by rfl, ?_⟩) (by assumption) ?_
              rotate_left
              · (intro w hSw; go_simp; try with_reducible rfl)
              simp only [Act.put, List.setIfInBounds_toArray, List.set_cons_zero, List.set_cons_succ]
              refine wpAnyH_take (i := 8) (v := ?_) rfl (by kernel_rfl) (by kernel_rfl) (by kernel_rfl) (fun _ _ _ h => h) (Or.inl ⟨by rfl, ?_⟩) (by assumption) ?_
              rotate_left
              · (intro w hSw; go_simp; try with_reducible rfl)
              simp only [Act.put, List.setIfInBounds_toArray, List.set_cons_zero, List.set_cons_succ]
              have xN := x4.below b5
              have nbl : w13.heap.size ≤ nb := by omega
              have l4 := x4.lt
              have hN : RecW (fun b => w13.heap.size ≤ b ∧ b ≠ nb) WN oc x := hrecN.sub (fun b _ h => ⟨by omega, by omega⟩)
              rw [hnb2] at xN
              clear hnb2 x4 b4 b5 l4 hrecN
            all_goals
              have hol := hN.rec.length
              have hoo := Tab.recOne hN.rec
              refine wpAnyH_ready (rs := [10]) (by kernel_rfl) (by simp) ?_
              refine AllReadyH.cons rfl (fun K hK => ?_) AllReadyH.nil
              rw [if_pos (by rfl)]
              refine wp_store_mid 31 _ _ (by rfl) nb 0 oc.toArray (by rfl) (by rfl) ?_ ?_ ?_ ?_
              · exact xN.there oc.toArray.size (by rw [show oc.toArray.size = 39 by simpa using hol]; rfl)
              · rw [List.size_toArray, hol]; kernel_rfl
              · exact all_oneCell_toArray hoo
              refine Mem.named ?_
              intro WS hWS
              have hW2 : WN.setCells nb 0 oc = WS := hWS
              have bW : Below w13.heap.size w13 WS := by rw [← hW2]; exact Tab.below_setCells nbl _ _ bN (Nat.le_refl _)
              have rW : WS.rangeAt nb 0 oc := by rw [← hW2]; exact World.rangeAt_setCells_same _ _ _ _ (xN.there _ (by rw [hol]; rfl))
              have kW : Kp (fun b => b = nb) WN WS := by rw [← hW2]; exact kp_setCells (M := fun b => b = nb) (fun _ => rfl) _ _ (Kp.refl _ WN)
              have lW : nb < WS.heap.size := Nat.lt_of_lt_of_le xN.lt kW.size
              have HF := Lib.hid (show GotR WS w13.heap.size WS.heap.size nb oc x ∧ Below w13.heap.size w13 WS from ⟨{ rng := rW, ge := nbl, lt := lW, le := Nat.le_refl _, rcd := (hN.ag kW.size (Ag.of_kp kW (fun q _ hq e => hq.2 e))).sub (fun q hq h => ⟨h.1, hq, h.2⟩) }, bW⟩)
              refine hK.out _ _ (hS WS bW) (fun hHeld => ?_)
              clear hK K hWS hW2 rW kW lW
              refine wpAnyH_take (i := 11) (v := ?_) rfl (by kernel_rfl) (by kernel_rfl) (by kernel_rfl) (fun _ _ _ h => h) (Or.inl ⟨by rfl, ?_⟩) (by assumption) ?_
              rotate_left
              · (intro w hSw; go_simp; try with_reducible rfl)
              simp only [Act.put, List.setIfInBounds_toArray, List.set_cons_zero, List.set_cons_succ]
              refine wpAnyH_done (by kernel_rfl) ?_ _
              clear hHeld
              simp only [List.getElem_toArray, List.getElem_cons_zero, List.getElem_cons_succ, List.set_cons_zero, List.set_cons_succ, List.setIfInBounds_toArray]
              clear hol hoo hN nbl bN bW xN
              revert HF
              generalize nb = ynb
              generalize oc = yoc
              generalize WS = yW
              revert yW yoc ynb
              exact hB.out
          case tailB =>
            refine Lib.hid ?_
            intro nB oB w14 HFB
            clear hS hS0 hget
            have c14 := c13.trans (HFB.out.2.mono c13.size)
            have H14 := Lib.hid (H13.out.below HFB.out.2)
            have zc14 : w13.heap.size ≤ w14.heap.size := HFB.out.2.size
            have GA14 := Lib.hid (HFA.out.1.below HFB.out.2)
            have hS := HPC.out w14 c14
            have hS0 := hS w14.drew (Below.refl _ w14).drew
            go_wp2_with fail
            refine wp_region_held_drew (S := fun W' => W'.cell? ⟨w.heap.size, 0, none⟩ = some (.string x.path)) (by kernel_rfl) hS0 (fun hHeld => ?_)
            refine wpAnyH_take (i := 0) (v := ?_) rfl (by kernel_rfl) (by kernel_rfl) (by kernel_rfl) (fun _ _ _ h => h) (Or.inl ⟨by rfl, ?_⟩) (by assumption) ?_
            rotate_left
            · (intro w hSw; go_simp; try with_reducible rfl)
            simp only [Act.put, List.setIfInBounds_toArray, List.set_cons_zero, List.set_cons_succ]
            refine wpAnyH_take (i := 1) (v := ?_) rfl (by kernel_rfl) (by kernel_rfl) (by kernel_rfl) (fun _ _ _ h => h) (Or.inl ⟨by rfl, ?_⟩) (by assumption) ?_
            rotate_left
            · (intro w hSw; go_simp; try with_reducible rfl)
            simp only [Act.put, List.setIfInBounds_toArray, List.set_cons_zero, List.set_cons_succ]
            refine wpAnyH_take (i := 2) (v := ?_) rfl (by kernel_rfl) (by kernel_rfl) (by kernel_rfl) (fun _ _ _ h => h) (Or.inl ⟨by rfl, ?_⟩) (by assumption) ?_
            rotate_left
            · (intro w hSw; go_simp; try with_reducible rfl)
            simp only [Act.put, List.setIfInBounds_toArray, List.set_cons_zero, List.set_cons_succ]
            refine wpAnyH_take (i := 3) (v := ?_) rfl (by kernel_rfl) (by kernel_rfl) (by kernel_rfl) (fun _ _ _ h => h) (Or.inl ⟨by rfl, ?_⟩) (by assumption) ?_
            rotate_left
            · (intro w hSw; go_simp; try with_reducible rfl)
            simp only [Act.put, List.setIfInBounds_toArray, List.set_cons_zero, List.set_cons_succ]
            refine wpAnyH_take (i := 4) (v := ?_) rfl (by kernel_rfl) (by kernel_rfl) (by kernel_rfl) (fun _ _ _ h => h) (Or.inl ⟨by rfl, ?_⟩) (by assumption) ?_
            rotate_left
            · (intro w hSw; go_simp; try with_reducible rfl)
            simp only [Act.put, List.setIfInBounds_toArray, List.set_cons_zero, List.set_cons_succ]
            refine wpAnyH_ready (rs := [5]) (by kernel_rfl) (by simp) ?_
            refine (AllReadyH.cons rfl (fun K hK => ?_) AllReadyH.nil)
            go_simp
            refine (refsC M5 F5 s1 [x] x.path w14.drew (H14.out.below (Below.refl _ _).drew) (by simp) (by intro r hr; simp only [List.mem_cons, List.not_mem_nil, or_false] at hr; subst hr; omega)).mono ?_
            rintro e w15 ⟨b5, hm⟩
            have hg : Sp.get Rec.path [x] x.path = some x := by simp [Sp.get]
            rw [hg] at hm
            obtain ⟨vx, rfl, hown⟩ := hm
            have d15 : Below w14.heap.size w14 w15 := Copy.below_undrew b5
            refine hK.out _ _ (hS w15 d15) (fun hHeld => ?_)
            clear hK K b5 hg
            refine wpAnyH_take (i := 6) (v := ?_) rfl (by kernel_rfl) (by kernel_rfl) (by kernel_rfl) (fun _ _ _ h => h) (Or.inl ⟨by rfl, ?_⟩) (by assumption) ?_
            rotate_left
            · (intro w hSw; go_simp; try with_reducible rfl)
            simp only [Act.put, List.setIfInBounds_toArray, List.set_cons_zero, List.set_cons_succ]
            refine wpAnyH_take (i := 7) (v := ?_) rfl (by kernel_rfl) (by kernel_rfl) (by kernel_rfl) (fun _ _ _ h => h) (Or.inl ⟨by rfl, ?_⟩) (by assumption) ?_
            rotate_left
            · (intro w hSw; go_simp; try with_reducible rfl)
            simp only [Act.put, List.setIfInBounds_toArray, List.set_cons_zero, List.set_cons_succ]
            refine wpAnyH_take (i := 8) (v := ?_) rfl (by kernel_rfl) (by kernel_rfl) (by kernel_rfl) (fun _ _ _ h => h) (Or.inl ⟨by rfl, ?_⟩) (by assumption) ?_
            rotate_left
            · (intro w hSw; go_simp; try with_reducible rfl)
            simp only [Act.put, List.setIfInBounds_toArray, List.set_cons_zero, List.set_cons_succ]
            refine wpAnyH_take (i := 9) (v := ?_) rfl (by kernel_rfl) (by kernel_rfl) (by kernel_rfl) (fun _ _ _ h => h) (Or.inl ⟨by rfl, ?_⟩) (by assumption) ?_
            rotate_left
            · (intro w hSw; go_simp; try with_reducible rfl)
            simp only [Act.put, List.setIfInBounds_toArray, List.set_cons_zero, List.set_cons_succ]
            refine wpAnyH_take (i := 10) (v := ?_) rfl (by kernel_rfl) (by kernel_rfl) (by kernel_rfl) (fun _ _ _ h => h) (Or.inl ⟨by rfl, ?_⟩) (by assumption) ?_
            rotate_left
            · (intro w hSw; go_simp; try with_reducible rfl)
            simp only [Act.put, List.setIfInBounds_toArray, List.set_cons_zero, List.set_cons_succ]
            refine wpAnyH_done (by kernel_rfl) ?_ _
            clear hHeld hS hS0
            simp only [List.getElem_toArray, List.getElem_cons_zero, List.getElem_cons_succ, List.set_cons_zero, List.set_cons_succ, List.setIfInBounds_toArray]
            have GB14 := Lib.hid HFB.out.1
            have c15 := c14.trans (d15.mono c14.size)
            have H15 := Lib.hid (H14.out.below d15)
            have zc15 : w14.heap.size ≤ w15.heap.size := d15.size
            have GA15 := Lib.hid (GA14.out.below d15)
            have GB15 := Lib.hid (GB14.out.below d15)
            obtain ⟨ax, kx, rfl⟩ := Tab.own_len hown
            have ROWX15 := Lib.hid (show w15.ownsRow w14.heap.size 9 1 (.slice ax x.refs.length kx) x.refs.length (x.refs.map .string) from hown)
            clear hown d15
            have hlA := GA15.out.rcd.rec.length
            have hlB := GB15.out.rcd.rec.length
            have rA := GA15.out.rng
            have rR := XR.out w15 c15
            go_wp2_with (first | (refine wpList_load_mid rfl 31 _ (by rfl) (nA) 0 (by rfl) oA _ rA Tryz.underlying31 rfl (by rw [hlA]; kernel_rfl) ?_) | (refine wpList_load_mid rfl 31 _ (by rfl) (w.heap.size) 0 (by rfl) cs _ rR Tryz.underlying31 rfl (by rw [hcl]; kernel_rfl) ?_))
            refine (rsameC _ _ x x oA cs w15 GA15.out.recAt (XA.out w15 c15) (by omega)).mono ?_
            rintro e w16 ⟨rfl, d16⟩
            rw [show eqR x x = true from decide_eq_true rfl]
            have c16 := c15.trans (d16.mono c15.size)
            have H16 := Lib.hid (H15.out.below d16)
            have zc16 : w15.heap.size ≤ w16.heap.size := d16.size
            have GA16 := Lib.hid (GA15.out.below d16)
            have GB16 := Lib.hid (GB15.out.below d16)
            have ROWX16 := Lib.hid (Copy.own_below ROWX15.out d16)
            clear rA rR d16
            have rB := GB16.out.rng
            have rR := XR.out w16 c16
            go_wp2_with (first | (refine wpList_load_midG (by rfl) 31 _ (by rfl) (nB) 0 (by rfl) oB _ rB Tryz.underlying31 rfl (by rw [hlB]; kernel_rfl) ?_) | (refine wpList_load_midG (by rfl) 31 _ (by rfl) (w.heap.size) 0 (by rfl) cs _ rR Tryz.underlying31 rfl (by rw [hcl]; kernel_rfl) ?_))
            refine (rsameC _ _ x x oB cs w16 GB16.out.recAt (XA.out w16 c16) (by omega)).mono ?_
            rintro e w17 ⟨rfl, d17⟩
            rw [show eqR x x = true from decide_eq_true rfl]
            have c17 := c16.trans (d17.mono c16.size)
            have H17 := Lib.hid (H16.out.below d17)
            have zc17 : w16.heap.size ≤ w17.heap.size := d17.size
            have GA17 := Lib.hid (GA16.out.below d17)
            have GB17 := Lib.hid (GB16.out.below d17)
            have ROWX17 := Lib.hid (Copy.own_below ROWX16.out d17)
            clear rB rR d17
            obtain ⟨kv, rvv, hcs, _, _, hrA⟩ := XA.out w17 c17
            obtain ⟨ar, kr, rfl, _⟩ := id hrA
            have q5 : w17.cell? ⟨w.heap.size, 5, none⟩ = some (.slice ar x.refs.length kr) := XR.out w17 c17 5 _ (by rw [hcs]; rfl)
            have hr1 := Texts.Reads.of_own ROWX17.out
            have hr2 := hrA.reads
            clear hcs hrA
            go_wp2_with fail
            refine (Texts.texts w17 _ _ x.refs x.refs hr1 hr2).mono ?_
            rintro e w18 ⟨rfl, sm⟩
            rw [show decide (x.refs = x.refs) = true from decide_eq_true rfl]
            have d18 : Below w17.heap.size w17 w18 := sm.below (Below.refl _ _)
            have c18 := c17.trans (d18.mono c17.size)
            have H18 := Lib.hid (H17.out.below d18)
            have zc18 : w17.heap.size ≤ w18.heap.size := d18.size
            have GA18 := Lib.hid (GA17.out.below d18)
            have GB18 := Lib.hid (GB17.out.below d18)
            have ROWX18 := Lib.hid (Copy.own_below ROWX17.out d18)
            clear q5 hr1 hr2 sm d18
            obtain ⟨a1, k1, a2, k2, SA, SB, p1, p2, p3, p4, p5, sA, sB, dAB, hsk, hsr⟩ := GA18.out.parts
            have HTH := Lib.hid (Thr.of hsr)
            have HSA := Lib.hid sA
            have HSB := Lib.hid sB
            have HDJ := Lib.hid dAB
            have P5 := Lib.hid p5
            clear hsr sA sB dAB p5
            go_wp2_with fail
            refine (Spoil.spoilC SA x.tree _ w18 hsk hbt).mono ?_
            rintro e w19 ⟨rfl, kp⟩
            clear p1 p2 p3 p4 hsk
            have c19 := c18.trans (kp.below c18.size (fun i hi hm => by have := HSA.out i hm; have := c12.size; omega))
            have H19 := Lib.hid (H18.out.kp kp (fun b hb hm => by have h1 := HSA.out b hm; have h2 := S5.out b (.inl hb); omega) (fun b hb hm => by have h1 := HSA.out b hm; have h2 := S5.out b (.inr hb); omega))
            have GB19 := Lib.hid (GB18.out.kp kp (fun q h1 h2 hm => by have h3 := HSA.out q hm; omega))
            have ROWX19 := Lib.hid (Tab.own_kp ROWX18.out kp (fun b hb hm => by have h1 := HSA.out b hm; have h2 := (ROWX18.out.lt b hb).1; omega))
            have zc19 : w18.heap.size ≤ w19.heap.size := kp.size
            have bM : nA < w18.heap.size := World.block_lt_of_cell? w18 _ P5.out
            have p5 : w19.cell? ⟨nA, 5, none⟩ = some (.slice a2 x.refs.length k2) := by rw [kp.cell (p := ⟨nA, 5, none⟩) bM (fun h => (HSA.out _ h).2.2 rfl)]; exact P5.out
            have bM11 : nA < w19.heap.size := World.block_lt_of_cell? w19 _ p5
            have P11 := Lib.hid p5
            have T11 := Lib.hid (HTH.out.kp kp (fun q h1 h2 => HDJ.out q h2 h1))
            clear kp bM
            go_wp2_with fail
            clear p5
            go_loopw [15, 148] (fun _ i wr => ∃ k : Nat, k ≤ x.refs.length ∧ i = .int .i64 k ∧ Kp SB w19 wr ∧ Thr SB wr a2 x.refs.length) (fun _ i _ => x.refs.length - (intOf i).toNat)
            case atStart => exact ⟨0, Nat.zero_le _, rfl, Kp.refl _ _, T11.out⟩
            case round =>
              obtain ⟨k, hk, rfl, kj, tj⟩ := hrel
              have e0 : (0 : Int) ≤ (k : Int) := Int.natCast_nonneg _
              have p5 : wr.cell? ⟨nA, 5, none⟩ = some (.slice a2 x.refs.length k2) := by rw [kj.cell (p := ⟨nA, 5, none⟩) bM11 (fun h => (HSB.out _ h).2.2 rfl)]; exact P11.out
              by_cases hlt : k < x.refs.length
              · obtain ⟨b, off, u, ea, hsb, hcu, hfr⟩ := tj.at hlt
                have e1 : (k : Int) < ((x.refs.length : Nat) : Int) := by omega
                have HRL := Lib.hid (kj.setCell ⟨b, off + k, none⟩ (.string Spoil.spoilt) (fun _ => hsb))
                have HTR := Lib.hid (tj.set b (off + k) (.string Spoil.spoilt))
                subst ea
                clear kj tj
                go_wp2_with fail
                go_roundw
                case rel => exact ⟨k + 1, by omega, by go_num, HRL.out, HTR.out⟩
                case measure => simp [intOf]; omega
              · have hkn : k = x.refs.length := by omega
                subst hkn
                generalize wr = w20 at *
                have c20 := c19.trans (kj.below c19.size (fun i hi hm => by have := HSB.out i hm; have := c12.size; omega))
                have H20 := Lib.hid (H19.out.kp kj (fun b hb hm => by have h1 := HSB.out b hm; have h2 := S5.out b (.inl hb); omega) (fun b hb hm => by have h1 := HSB.out b hm; have h2 := S5.out b (.inr hb); omega))
                have GB20 := Lib.hid (GB19.out.kp kj (fun q h1 h2 hm => by have h3 := HSB.out q hm; omega))
                have ROWX20 := Lib.hid (Tab.own_kp ROWX19.out kj (fun b hb hm => by have h1 := HSB.out b hm; have h2 := (ROWX19.out.lt b hb).1; omega))
                have zc20 : w19.heap.size ≤ w20.heap.size := kj.size
                clear kj tj e0 p5 hlt hk
                have T11 := Lib.hid (Thr.of ((StrsW.of_own ROWX20.out).sub (S' := fun b => w14.heap.size ≤ b) (fun q _ h => h.1)))
                have HSX := Lib.hid (show ∀ q, (fun b => w14.heap.size ≤ b) q → w14.heap.size ≤ q from fun q h => h)
                go_wp2_with fail
                go_loopw [16, 158] (fun _ i wr => ∃ k : Nat, k ≤ x.refs.length ∧ i = .int .i64 k ∧ Kp (fun b => w14.heap.size ≤ b) w20 wr ∧ Thr (fun b => w14.heap.size ≤ b) wr ax x.refs.length) (fun _ i _ => x.refs.length - (intOf i).toNat)
                case atStart => exact ⟨0, Nat.zero_le _, rfl, Kp.refl _ _, T11.out⟩
                case round =>
                  obtain ⟨k, hk, rfl, kj, tj⟩ := hrel
                  have e0 : (0 : Int) ≤ (k : Int) := Int.natCast_nonneg _
                  by_cases hlt : k < x.refs.length
                  · obtain ⟨b, off, u, ea, hsb, hcu, hfr⟩ := tj.at hlt
                    have e1 : (k : Int) < ((x.refs.length : Nat) : Int) := by omega
                    have HRL := Lib.hid (kj.setCell ⟨b, off + k, none⟩ (.string Spoil.spoilt) (fun _ => hsb))
                    have HTR := Lib.hid (tj.set b (off + k) (.string Spoil.spoilt))
                    subst ea
                    clear kj tj
                    go_wp2_with fail
                    go_roundw
                    case rel => exact ⟨k + 1, by omega, by go_num, HRL.out, HTR.out⟩
                    case measure => simp [intOf]; omega
                  · have hkn : k = x.refs.length := by omega
                    subst hkn
                    generalize wr = w21 at *
                    have c21 := c20.trans (kj.below c20.size (fun i hi hm => by have := HSX.out i hm; have := c12.size; omega))
                    have H21 := Lib.hid (H20.out.kp kj (fun b hb hm => by have h1 := HSX.out b hm; have h2 := S5.out b (.inl hb); omega) (fun b hb hm => by have h1 := HSX.out b hm; have h2 := S5.out b (.inr hb); omega))
                    have GB21 := Lib.hid (GB20.out.kp kj (fun q h1 h2 hm => by have h3 := HSX.out q hm; omega))
                    have zc21 : w20.heap.size ≤ w21.heap.size := kj.size
                    clear kj tj e0 hlt hk
                    go_wp2_with fail
                    refine (pathsC M5 F5 s1 [x] w21 H21.out (by simp)).mono ?_
                    rintro e w22 ⟨v22, rfl, hown, d22⟩
                    have c22 := c21.trans (d22.mono c21.size)
                    have H22 := Lib.hid (H21.out.below d22)
                    have zc22 : w21.heap.size ≤ w22.heap.size := d22.size
                    have GB22 := Lib.hid (GB21.out.below d22)
                    obtain ⟨ap, kp22, rfl⟩ := Tab.own_len hown
                    have T11 := Lib.hid (Thr.of ((StrsW.of_own (l := [x.path]) (v := .slice ap 1 kp22) hown).sub (S' := fun b => w21.heap.size ≤ b) (fun q _ h => h.1)))
                    have HSP := Lib.hid (show ∀ q, (fun b => w21.heap.size ≤ b) q → w21.heap.size ≤ q from fun q h => h)
                    clear hown d22
                    go_wp2_with fail
                    go_loopw [18, 171] (fun _ i wr => ∃ k : Nat, k ≤ 1 ∧ i = .int .i64 k ∧ Kp (fun b => w21.heap.size ≤ b) w22 wr ∧ Thr (fun b => w21.heap.size ≤ b) wr ap 1) (fun _ i _ => 1 - (intOf i).toNat)
                    case atStart => exact ⟨0, Nat.zero_le _, rfl, Kp.refl _ _, T11.out⟩
                    case round =>
                      obtain ⟨k, hk, rfl, kj, tj⟩ := hrel
                      have e0 : (0 : Int) ≤ (k : Int) := Int.natCast_nonneg _
                      by_cases hlt : k < 1
                      · obtain ⟨b, off, u, ea, hsb, hcu, hfr⟩ := tj.at hlt
                        have e1 : (k : Int) < ((1 : Nat) : Int) := by omega
                        have HRL := Lib.hid (kj.setCell ⟨b, off + k, none⟩ (.string Spoil.spoilt) (fun _ => hsb))
                        have HTR := Lib.hid (tj.set b (off + k) (.string Spoil.spoilt))
                        subst ea
                        clear kj tj
                        go_wp2_with fail
                        go_roundw
                        case rel => exact ⟨k + 1, by omega, by go_num, HRL.out, HTR.out⟩
                        case measure => simp [intOf]; omega
                      · have hkn : k = 1 := by omega
                        subst hkn
                        generalize wr = w23 at *
                        have c23 := c22.trans (kj.below c22.size (fun i hi hm => by have := HSP.out i hm; have := c12.size; omega))
                        have H23 := Lib.hid (H22.out.kp kj (fun b hb hm => by have h1 := HSP.out b hm; have h2 := S5.out b (.inl hb); omega) (fun b hb hm => by have h1 := HSP.out b hm; have h2 := S5.out b (.inr hb); omega))
                        have GB23 := Lib.hid (GB22.out.kp kj (fun q h1 h2 hm => by have h3 := HSP.out q hm; omega))
                        have zc23 : w22.heap.size ≤ w23.heap.size := kj.size
                        clear kj tj e0 hlt hk
                        have hget : ∀ W, Below w23.heap.size w23 W → Calls Tryz.prog 23 #[.pointer (some ⟨s1, 0, none⟩), .string x.path] W fun e w' => Below W.heap.size W w' ∧ ∃ cs, e = .returned (.tuple #[.agg cs.toArray, .int .i64 0]) ∧ RecW (fun b => W.heap.size ≤ b) w' cs x := fun W hb => GetW.getC1 M5 F5 s1 x W (H23.out.below hb) (by omega)
                        have hS := HPC.out w23 c23
                        have hS0 := hS w23.drew (Below.refl _ w23).drew
                        go_wp2_with fail
                        refine (fun (hC : Go.RowKit.Hid ?PC) => ?mainC) ?tailC
                        case mainC =>
                          refine wp_region_held_drew (S := fun W' => W'.cell? ⟨w.heap.size, 0, none⟩ = some (.string x.path)) (by kernel_rfl) hS0 (fun hHeld => ?_)
                          refine wpAnyH_take (i := 0) (v := ?_) rfl (by kernel_rfl) (by kernel_rfl) (by kernel_rfl) (fun _ _ _ h => h) (Or.inl ⟨by rfl, ?_⟩) (by assumption) ?_
                          rotate_left
                          · (intro w hSw; go_simp; try with_reducible rfl)
                          simp only [Act.put, List.setIfInBounds_toArray, List.set_cons_zero, List.set_cons_succ]
                          refine wpAnyH_take (i := 1) (v := ?_) rfl (by kernel_rfl) (by kernel_rfl) (by kernel_rfl) (fun _ _ _ h => h) (Or.inl ⟨by rfl, ?_⟩) (by assumption) ?_
                          rotate_left
                          · (intro w hSw; go_simp; try with_reducible rfl)
                          simp only [Act.put, List.setIfInBounds_toArray, List.set_cons_zero, List.set_cons_succ]
                          refine wpAnyH_take (i := 2) (v := ?_) rfl (by kernel_rfl) (by kernel_rfl) (by kernel_rfl) (fun _ _ _ h => h) (Or.inl ⟨by rfl, ?_⟩) (by assumption) ?_
                          rotate_left
                          · (intro w hSw; go_simp; try with_reducible rfl)
                          simp only [Act.put, List.setIfInBounds_toArray, List.set_cons_zero, List.set_cons_succ]
                          refine wpAnyH_take (i := 3) (v := ?_) rfl (by kernel_rfl) (by kernel_rfl) (by kernel_rfl) (fun _ _ _ h => h) (Or.inl ⟨by rfl, ?_⟩) (by assumption) ?_
                          rotate_left
                          · (intro w hSw; go_simp; try with_reducible rfl)
                          simp only [Act.put, List.setIfInBounds_toArray, List.set_cons_zero, List.set_cons_succ]
                          refine wpAnyH_take (i := 4) (v := ?_) rfl (by kernel_rfl) (by kernel_rfl) (by kernel_rfl) (fun _ _ _ h => h) (Or.inl ⟨by rfl, ?_⟩) (by assumption) ?_
                          rotate_left
                          · (intro w hSw; go_simp; try with_reducible rfl)
                          simp only [Act.put, List.setIfInBounds_toArray, List.set_cons_zero, List.set_cons_succ]
                          refine wpAnyH_ready (rs := [5, 9]) (by kernel_rfl) (by simp) ?_
                          refine AllReadyH.cons rfl (fun K hK => ?armAC) (AllReadyH.cons rfl (fun K hK => ?armBC) AllReadyH.nil)
                          case' armAC =>
                            go_simp
                            refine (hget w23.drew (Below.refl _ w23).drew).mono ?_
                            rintro e wg3 ⟨b3, oc, rfl, hrec⟩
                            have b3' : Below w23.heap.size w23 wg3 := Copy.below_undrew b3
                            refine hK.out _ _ (hS wg3 b3') (fun hHeld => ?_)
                            clear hK K
                            refine wpAnyH_take (i := 6) (v := ?_) rfl (by kernel_rfl) (by kernel_rfl) (by kernel_rfl) (fun _ _ _ h => h) (Or.inl ⟨by rfl, ?_⟩) (by assumption) ?_
                            rotate_left
                            · (intro w hSw; go_simp; try with_reducible rfl)
                            simp only [Act.put, List.setIfInBounds_toArray, List.set_cons_zero, List.set_cons_succ]
                            refine wpAnyH_take (i := 7) (v := ?_) rfl (by kernel_rfl) (by kernel_rfl) (by kernel_rfl) (fun _ _ _ h => h) (Or.inl ⟨by rfl, ?_⟩) (by assumption) ?_
                            rotate_left
                            · (intro w hSw; go_simp; try with_reducible rfl)
                            simp only [Act.put, List.setIfInBounds_toArray, List.set_cons_zero, List.set_cons_succ]
                            refine wpAnyH_take (i := 8) (v := ?_) rfl (by kernel_rfl) (by kernel_rfl) (by kernel_rfl) (fun _ _ _ h => h) (Or.inl ⟨by rfl, ?_⟩) (by assumption) ?_
                            rotate_left
                            · (intro w hSw; go_simp; try with_reducible rfl)
                            simp only [Act.put, List.setIfInBounds_toArray, List.set_cons_zero, List.set_cons_succ]
                            refine wpAnyH_ready (rs := [9]) (by kernel_rfl) (by simp) ?_
                            refine AllReadyH.cons rfl (fun K hK => ?_) AllReadyH.nil
                            go_simp
                            change K _ (wg3.alloc (.cells Ins.zeroRec.cells 31))
                            obtain ⟨WN, hWN⟩ : ∃ W, wg3.alloc (.cells Ins.zeroRec.cells 31) = W := ⟨_, rfl⟩
                            obtain ⟨bN3, xN⟩ := alloc_fact hWN
                            have bN : Below w23.heap.size w23 WN := b3'.trans (bN3.mono b3'.size)
                            rw [hWN]
                            refine hK.out _ _ (hS WN bN) (fun hHeld => ?_)
                            have nbl : w23.heap.size ≤ wg3.heap.size := b3'.size
                            have hN : RecW (fun b => w23.heap.size ≤ b ∧ b ≠ wg3.heap.size) WN oc x := (hrec.sub (S' := fun b => w23.heap.size ≤ b ∧ b ≠ wg3.heap.size) (fun b h1 h => ⟨h, by omega⟩)).below bN3
                            obtain ⟨nb, hnb2⟩ : ∃ nb, wg3.heap.size = nb := ⟨_, rfl⟩
                            rw [hnb2] at xN nbl hN ⊢
                            clear hK K hnb2 hWN bN3 hrec b3' b3
                          case' armBC =>
                            go_simp
                            change K _ (w23.alloc (.cells Ins.zeroRec.cells 31)).drew
                            obtain ⟨wg4, hwg4⟩ : ∃ W, (w23.alloc (.cells Ins.zeroRec.cells 31)).drew = W := ⟨_, rfl⟩
                            have x4 : Bx wg4 w23.heap.size Ins.zeroRec.cells 31 := by rw [← hwg4]; exact Bx.new w23 Ins.zeroRec.cells 31
                            have b4 : Below w23.heap.size w23 wg4 := by rw [← hwg4]; exact ((Below.refl _ w23).alloc (Nat.le_refl _) _).drew
                            rw [hwg4]
                            refine hK.out _ _ (hS wg4 b4) (fun hHeld => ?_)
                            obtain ⟨nb, hnb2⟩ : ∃ nb, w23.heap.size = nb := ⟨_, rfl⟩
                            rw [hnb2]
                            clear hK K hwg4
                            refine wpAnyH_ready (rs := [5]) (by kernel_rfl) (by simp) ?_
                            refine AllReadyH.cons rfl (fun K hK => ?_) AllReadyH.nil
                            go_simp
                            refine (hget wg4 b4).mono ?_
                            rintro e WN ⟨b5, oc, rfl, hrecN⟩
                            have bN : Below w23.heap.size w23 WN := b4.trans (b5.mono b4.size)
                            refine hK.out _ _ (hS WN bN) (fun hHeld => ?_)
                            clear hK K
                            refine wpAnyH_take (i := 6) (v := ?_) rfl (by kernel_rfl) (by kernel_rfl) (by kernel_rfl) (fun _ _ _ h => h) (Or.inl ⟨by rfl, ?_⟩) (by assumption) ?_
                            rotate_left
                            · (intro w hSw; go_simp; try with_reducible rfl)
                            simp only [Act.put, List.setIfInBounds_toArray, List.set_cons_zero, List.set_cons_succ]
                            refine wpAnyH_take (i := 7) (v := ?_) rfl (by kernel_rfl) (by kernel_rfl) (by kernel_rfl) (fun _ _ _ h => h) (Or.inl ⟨by rfl, ?_⟩) (by assumption) ?_
                            rotate_left
                            · (intro w hSw; go_simp; try with_reducible rfl)
                            simp only [Act.put, List.setIfInBounds_toArray, List.set_cons_zero, List.set_cons_succ]
                            refine wpAnyH_take (i := 8) (v := ?_) rfl (by kernel_rfl) (by kernel_rfl) (by kernel_rfl) (fun _ _ _ h => h) (Or.inl ⟨by rfl, ?_⟩) (by assumption) ?_
                            rotate_left
                            · (intro w hSw; go_simp; try with_reducible rfl)
                            simp only [Act.put, List.setIfInBounds_toArray, List.set_cons_zero, List.set_cons_succ]
                            have xN := x4.below b5
                            have nbl : w23.heap.size ≤ nb := by omega
                            have l4 := x4.lt
                            have hN : RecW (fun b => w23.heap.size ≤ b ∧ b ≠ nb) WN oc x := hrecN.sub (fun b _ h => ⟨by omega, by omega⟩)
                            rw [hnb2] at xN
                            clear hnb2 x4 b4 b5 l4 hrecN
                          all_goals
                            have hol := hN.rec.length
                            have hoo := Tab.recOne hN.rec
                            refine wpAnyH_ready (rs := [10]) (by kernel_rfl) (by simp) ?_
                            refine AllReadyH.cons rfl (fun K hK => ?_) AllReadyH.nil
                            rw [if_pos (by rfl)]
                            refine wp_store_mid 31 _ _ (by rfl) nb 0 oc.toArray (by rfl) (by rfl) ?_ ?_ ?_ ?_
                            · exact xN.there oc.toArray.size (by rw [show oc.toArray.size = 39 by simpa using hol]; rfl)
                            · rw [List.size_toArray, hol]; kernel_rfl
                            · exact all_oneCell_toArray hoo
                            refine Mem.named ?_
                            intro WS hWS
                            have hW2 : WN.setCells nb 0 oc = WS := hWS
                            have bW : Below w23.heap.size w23 WS := by rw [← hW2]; exact Tab.below_setCells nbl _ _ bN (Nat.le_refl _)
                            have rW : WS.rangeAt nb 0 oc := by rw [← hW2]; exact World.rangeAt_setCells_same _ _ _ _ (xN.there _ (by rw [hol]; rfl))
                            have kW : Kp (fun b => b = nb) WN WS := by rw [← hW2]; exact kp_setCells (M := fun b => b = nb) (fun _ => rfl) _ _ (Kp.refl _ WN)
                            have lW : nb < WS.heap.size := Nat.lt_of_lt_of_le xN.lt kW.size
                            have HF := Lib.hid (show GotR WS w23.heap.size WS.heap.size nb oc x ∧ Below w23.heap.size w23 WS from ⟨{ rng := rW, ge := nbl, lt := lW, le := Nat.le_refl _, rcd := (hN.ag kW.size (Ag.of_kp kW (fun q _ hq e => hq.2 e))).sub (fun q hq h => ⟨h.1, hq, h.2⟩) }, bW⟩)
                            refine hK.out _ _ (hS WS bW) (fun hHeld => ?_)
                            clear hK K hWS hW2 rW kW lW
                            refine wpAnyH_take (i := 11) (v := ?_) rfl (by kernel_rfl) (by kernel_rfl) (by kernel_rfl) (fun _ _ _ h => h) (Or.inl ⟨by rfl, ?_⟩) (by assumption) ?_
                            rotate_left
                            · (intro w hSw; go_simp; try with_reducible rfl)
                            simp only [Act.put, List.setIfInBounds_toArray, List.set_cons_zero, List.set_cons_succ]
                            refine wpAnyH_done (by kernel_rfl) ?_ _
                            clear hHeld
                            simp only [List.getElem_toArray, List.getElem_cons_zero, List.getElem_cons_succ, List.set_cons_zero, List.set_cons_succ, List.setIfInBounds_toArray]
                            clear hol hoo hN nbl bN bW xN
                            revert HF
                            generalize nb = ynb
                            generalize oc = yoc
                            generalize WS = yW
                            revert yW yoc ynb
                            exact hC.out
                        case tailC =>
                          refine Lib.hid ?_
                          intro nC oC w24 HFC
                          clear hS hS0 hget
                          have c24 := c23.trans (HFC.out.2.mono c23.size)
                          have H24 := Lib.hid (H23.out.below HFC.out.2)
                          have zc24 : w23.heap.size ≤ w24.heap.size := HFC.out.2.size
                          have GB24 := Lib.hid (GB23.out.below HFC.out.2)
                          have hlB := GB24.out.rcd.rec.length
                          have hlC := HFC.out.1.rcd.rec.length
                          obtain ⟨kC, rC, SK, SR, hoC, _, _, _, _, hkC, _⟩ := HFC.out.1.rcd
                          obtain ⟨kR, rR, hcsR, _, hkR, _⟩ := HX.out
                          have HKC := Lib.hid hkC
                          have HKR := Lib.hid hkR
                          have HRK := Lib.hid (show ∀ (W : World) (b : Nat) (l : List Value) (kv rv : Value), W.rangeAt b 0 l → l = x.cells kv rv → W.rangeAt b 1 [.int .i64 x.tree.kind, .bool x.tree.exec, .string x.tree.text, kv] from fun W b l kv rv h e j u hj => by
                            have hj4 : j < 4 := by simpa using (List.getElem?_eq_some_iff.1 hj).1
                            have := h (1 + j) u (by rw [e]; match j, hj4 with | 0, _ => exact hj | 1, _ => exact hj | 2, _ => exact hj | 3, _ => exact hj)
                            rwa [Nat.zero_add] at this)
                          have HOC := Lib.hid hoC
                          have HCS := Lib.hid hcsR
                          clear hoC hcsR hkC hkR
                          have hS : ∀ W', Below w24.heap.size w24 W' → (fun W' => W'.cell? ⟨w.heap.size, 0, none⟩ = some (.string x.path) ∧ W'.rangeAt nB 0 oB ∧ W'.rangeAt nC 0 oC ∧ W'.rangeAt w.heap.size 0 cs ∧ W'.rangeAt nC 1 [.int .i64 x.tree.kind, .bool x.tree.exec, .string x.tree.text, kC] ∧ W'.rangeAt w.heap.size 1 [.int .i64 x.tree.kind, .bool x.tree.exec, .string x.tree.text, kR]) W' := fun W' hb => by
                            have r1 := (GB24.out.below hb).rng
                            have r2 := (HFC.out.1.below hb).rng
                            have r3 := XR.out W' (c24.trans (hb.mono c24.size))
                            exact ⟨HPC.out w24 c24 W' hb, r1, r2, r3, HRK.out W' nC oC kC rC r2 HOC.out, HRK.out W' _ cs kR rR r3 HCS.out⟩
                          have hS0 := hS w24.drew (Below.refl _ w24).drew
                          go_wp2_with fail
                          refine wp_region_held_drew (S := fun W' => W'.cell? ⟨w.heap.size, 0, none⟩ = some (.string x.path) ∧ W'.rangeAt nB 0 oB ∧ W'.rangeAt nC 0 oC ∧ W'.rangeAt w.heap.size 0 cs ∧ W'.rangeAt nC 1 [.int .i64 x.tree.kind, .bool x.tree.exec, .string x.tree.text, kC] ∧ W'.rangeAt w.heap.size 1 [.int .i64 x.tree.kind, .bool x.tree.exec, .string x.tree.text, kR]) (by kernel_rfl) hS0 (fun hHeld => ?_)
                          refine' wpAnyH_take (i := 0) (v := _) rfl (by kernel_rfl) (by kernel_rfl) (by kernel_rfl) (fun _ _ _ h => h) (yieldsIf_load_mid (by rfl) 31 _ (by rfl) (nB) 0 (by rfl) (oB) _ (fun w h => h.2.1) Tryz.underlying31 rfl (by rw [hlB]; kernel_rfl)) (by assumption) ?_
                          simp only [Act.put, List.setIfInBounds_toArray, List.set_cons_zero, List.set_cons_succ]
                          refine' wpAnyH_take (i := 1) (v := _) rfl (by kernel_rfl) (by kernel_rfl) (by kernel_rfl) (fun _ _ _ h => h) (yieldsIf_load_mid (by rfl) 31 _ (by rfl) (w.heap.size) 0 (by rfl) (cs) _ (fun w h => h.2.2.2.1) Tryz.underlying31 rfl (by rw [hcl]; kernel_rfl)) (by assumption) ?_
                          simp only [Act.put, List.setIfInBounds_toArray, List.set_cons_zero, List.set_cons_succ]
                          refine wpAnyH_ready (rs := [2]) (by kernel_rfl) (by simp) ?_
                          refine (AllReadyH.cons rfl (fun K hK => ?_) AllReadyH.nil)
                          go_simp
                          refine (rsameC _ _ x x oB cs w24.drew (GB24.out.below (Below.refl _ _).drew).recAt (XA.out w24.drew (c24.trans ((Below.refl _ _).drew.mono c24.size))) (by omega)).mono ?_
                          rintro e w25 ⟨rfl, b25⟩
                          rw [show eqR x x = true from decide_eq_true rfl]
                          have b25 : Below w24.heap.size w24 w25 := Copy.below_undrew b25
                          refine hK.out _ _ (hS w25 b25) (fun hHeld => ?_)
                          clear hK K
                          refine wpAnyH_take (i := 3) (v := ?_) rfl (by kernel_rfl) (by kernel_rfl) (by kernel_rfl) (fun _ _ _ h => h) (Or.inl ⟨by rfl, ?_⟩) (by assumption) ?_
                          rotate_left
                          · (intro w hSw; go_simp; try with_reducible rfl)
                          simp only [Act.put, List.setIfInBounds_toArray, List.set_cons_zero, List.set_cons_succ]
                          refine' wpAnyH_take (i := 4) (v := _) rfl (by kernel_rfl) (by kernel_rfl) (by kernel_rfl) (fun _ _ _ h => h) (yieldsIf_load_mid (by rfl) 31 _ (by rfl) (nC) 0 (by rfl) (oC) _ (fun w h => h.2.2.1) Tryz.underlying31 rfl (by rw [hlC]; kernel_rfl)) (by assumption) ?_
                          simp only [Act.put, List.setIfInBounds_toArray, List.set_cons_zero, List.set_cons_succ]
                          refine' wpAnyH_take (i := 5) (v := _) rfl (by kernel_rfl) (by kernel_rfl) (by kernel_rfl) (fun _ _ _ h => h) (yieldsIf_load_mid (by rfl) 31 _ (by rfl) (w.heap.size) 0 (by rfl) (cs) _ (fun w h => h.2.2.2.1) Tryz.underlying31 rfl (by rw [hcl]; kernel_rfl)) (by assumption) ?_
                          simp only [Act.put, List.setIfInBounds_toArray, List.set_cons_zero, List.set_cons_succ]
                          refine wpAnyH_ready (rs := [6]) (by kernel_rfl) (by simp) ?_
                          refine (AllReadyH.cons rfl (fun K hK => ?_) AllReadyH.nil)
                          go_simp
                          refine (rsameC _ _ x x oC cs w25 (HFC.out.1.below b25).recAt (XA.out w25 (c24.trans (b25.mono c24.size))) (by omega)).mono ?_
                          rintro e w26 ⟨rfl, d26⟩
                          rw [show eqR x x = true from decide_eq_true rfl]
                          have b26 : Below w24.heap.size w24 w26 := b25.trans (d26.mono b25.size)
                          refine hK.out _ _ (hS w26 b26) (fun hHeld => ?_)
                          clear hK K
                          refine wpAnyH_take (i := 7) (v := ?_) rfl (by kernel_rfl) (by kernel_rfl) (by kernel_rfl) (fun _ _ _ h => h) (Or.inl ⟨by rfl, ?_⟩) (by assumption) ?_
                          rotate_left
                          · (intro w hSw; go_simp; try with_reducible rfl)
                          simp only [Act.put, List.setIfInBounds_toArray, List.set_cons_zero, List.set_cons_succ]
                          refine wpAnyH_take (i := 8) (v := ?_) rfl (by kernel_rfl) (by kernel_rfl) (by kernel_rfl) (fun _ _ _ h => h) (Or.inl ⟨by rfl, ?_⟩) (by assumption) ?_
                          rotate_left
                          · (intro w hSw; go_simp; try with_reducible rfl)
                          simp only [Act.put, List.setIfInBounds_toArray, List.set_cons_zero, List.set_cons_succ]
                          refine wpAnyH_take (i := 9) (v := ?_) rfl (by kernel_rfl) (by kernel_rfl) (by kernel_rfl) (fun _ _ _ h => h) (Or.inl ⟨by rfl, ?_⟩) (by assumption) ?_
                          rotate_left
                          · (intro w hSw; go_simp; try with_reducible rfl)
                          simp only [Act.put, List.setIfInBounds_toArray, List.set_cons_zero, List.set_cons_succ]
                          refine wpAnyH_take (i := 10) (v := ?_) rfl (by kernel_rfl) (by kernel_rfl) (by kernel_rfl) (fun _ _ _ h => h) (Or.inl ⟨by rfl, ?_⟩) (by assumption) ?_
                          rotate_left
                          · (intro w hSw; go_simp; try with_reducible rfl)
                          simp only [Act.put, List.setIfInBounds_toArray, List.set_cons_zero, List.set_cons_succ]
                          refine wpAnyH_take (i := 11) (v := ?_) rfl (by kernel_rfl) (by kernel_rfl) (by kernel_rfl) (fun _ _ _ h => h) (Or.inl ⟨by rfl, ?_⟩) (by assumption) ?_
                          rotate_left
                          · (intro w hSw; go_simp; try with_reducible rfl)
                          simp only [Act.put, List.setIfInBounds_toArray, List.set_cons_zero, List.set_cons_succ]
                          refine wpAnyH_take (i := 12) (v := ?_) rfl (by kernel_rfl) (by kernel_rfl) (by kernel_rfl) (fun _ _ _ h => h) (Or.inl ⟨by rfl, ?_⟩) (by assumption) ?_
                          rotate_left
                          · (intro w hSw; go_simp; try with_reducible rfl)
                          simp only [Act.put, List.setIfInBounds_toArray, List.set_cons_zero, List.set_cons_succ]
                          refine wpAnyH_take (i := 13) (v := ?_) rfl (by kernel_rfl) (by kernel_rfl) (by kernel_rfl) (fun _ _ _ h => h) (Or.inl ⟨by rfl, ?_⟩) (by assumption) ?_
                          rotate_left
                          · (intro w hSw; have hSp := hSw.1; go_simp; try with_reducible rfl)
                          simp only [Act.put, List.setIfInBounds_toArray, List.set_cons_zero, List.set_cons_succ]
                          refine wpAnyH_ready (rs := [14]) (by kernel_rfl) (by simp) ?_
                          refine (AllReadyH.cons rfl (fun K hK => ?_) AllReadyH.nil)
                          go_simp
                          refine (hasC M5 F5 s1 [x] x.path w26 (H24.out.below b26) (by simp)).mono ?_
                          rintro e w27 ⟨rfl, d27⟩
                          rw [show Sto.has [x] x.path = true by simp [Sto.has, Sp.get]]
                          have b27 : Below w24.heap.size w24 w27 := b26.trans (d27.mono b26.size)
                          refine hK.out _ _ (hS w27 b27) (fun hHeld => ?_)
                          clear hK K
                          refine wpAnyH_take (i := 15) (v := ?_) rfl (by kernel_rfl) (by kernel_rfl) (by kernel_rfl) (fun _ _ _ h => h) (Or.inl ⟨by rfl, ?_⟩) (by assumption) ?_
                          rotate_left
                          · (intro w hSw; go_simp; try with_reducible rfl)
                          simp only [Act.put, List.setIfInBounds_toArray, List.set_cons_zero, List.set_cons_succ]
                          refine wpAnyH_take (i := 16) (v := ?_) rfl (by kernel_rfl) (by kernel_rfl) (by kernel_rfl) (fun _ _ _ h => h) (Or.inl ⟨by rfl, ?_⟩) (by assumption) ?_
                          rotate_left
                          · (intro w hSw; go_simp; try with_reducible rfl)
                          simp only [Act.put, List.setIfInBounds_toArray, List.set_cons_zero, List.set_cons_succ]
                          refine wpAnyH_take (i := 17) (v := ?_) rfl (by kernel_rfl) (by kernel_rfl) (by kernel_rfl) (fun _ _ _ h => h) (Or.inl ⟨by rfl, ?_⟩) (by assumption) ?_
                          rotate_left
                          · (intro w hSw; go_simp; try with_reducible rfl)
                          simp only [Act.put, List.setIfInBounds_toArray, List.set_cons_zero, List.set_cons_succ]
                          refine' wpAnyH_take (i := 18) (v := _) rfl (by kernel_rfl) (by kernel_rfl) (by kernel_rfl) (fun _ _ _ h => h) (yieldsIf_load_mid (by rfl) 26 _ (by rfl) (nC) 1 (by rfl) ([.int .i64 x.tree.kind, .bool x.tree.exec, .string x.tree.text, kC]) _ (fun w h => h.2.2.2.2.1) Tryz.underlying26 rfl (by kernel_rfl)) (by assumption) ?_
                          simp only [Act.put, List.setIfInBounds_toArray, List.set_cons_zero, List.set_cons_succ]
                          refine wpAnyH_take (i := 19) (v := ?_) rfl (by kernel_rfl) (by kernel_rfl) (by kernel_rfl) (fun _ _ _ h => h) (Or.inl ⟨by rfl, ?_⟩) (by assumption) ?_
                          rotate_left
                          · (intro w hSw; go_simp; try with_reducible rfl)
                          simp only [Act.put, List.setIfInBounds_toArray, List.set_cons_zero, List.set_cons_succ]
                          refine' wpAnyH_take (i := 20) (v := _) rfl (by kernel_rfl) (by kernel_rfl) (by kernel_rfl) (fun _ _ _ h => h) (yieldsIf_load_mid (by rfl) 26 _ (by rfl) (w.heap.size) 1 (by rfl) ([.int .i64 x.tree.kind, .bool x.tree.exec, .string x.tree.text, kR]) _ (fun w h => h.2.2.2.2.2) Tryz.underlying26 rfl (by kernel_rfl)) (by assumption) ?_
                          simp only [Act.put, List.setIfInBounds_toArray, List.set_cons_zero, List.set_cons_succ]
                          refine wpAnyH_ready (rs := [21]) (by kernel_rfl) (by simp) ?_
                          refine (AllReadyH.cons rfl (fun K hK => ?_) AllReadyH.nil)
                          go_simp
                          refine (R06.equalC _ _ x.tree x.tree kC kR w27 ((HKC.out.below b27).kids) (HKR.out.below (b0.trans ((c24.trans (b27.mono c24.size)).mono b0.size))) hbt).mono ?_
                          rintro e w28 ⟨rfl, d28⟩
                          rw [show Eq.eqT x.tree x.tree = true from decide_eq_true rfl]
                          have b28 : Below w24.heap.size w24 w28 := b27.trans (d28.mono b27.size)
                          refine hK.out _ _ (hS w28 b28) (fun hHeld => ?_)
                          clear hK K
                          refine wpAnyH_take (i := 22) (v := ?_) rfl (by kernel_rfl) (by kernel_rfl) (by kernel_rfl) (fun _ _ _ h => h) (Or.inl ⟨by rfl, ?_⟩) (by assumption) ?_
                          rotate_left
                          · (intro w hSw; go_simp; try with_reducible rfl)
                          simp only [Act.put, List.setIfInBounds_toArray, List.set_cons_zero, List.set_cons_succ]
                          refine wpAnyH_take (i := 23) (v := ?_) rfl (by kernel_rfl) (by kernel_rfl) (by kernel_rfl) (fun _ _ _ h => h) (Or.inl ⟨by rfl, ?_⟩) (by assumption) ?_
                          rotate_left
                          · (intro w hSw; go_simp; try with_reducible rfl)
                          simp only [Act.put, List.setIfInBounds_toArray, List.set_cons_zero, List.set_cons_succ]
                          refine wpAnyH_done (by kernel_rfl) ?_ _
                          clear hHeld
                          simp only [List.getElem_toArray, List.getElem_cons_zero, List.getElem_cons_succ, List.set_cons_zero, List.set_cons_succ, List.setIfInBounds_toArray]
                          go_wp2_with fail
                          go_ret
                          exact ⟨rfl, b0.trans ((c24.trans (b28.mono c24.size)).mono b0.size)⟩
end Go.Proofs.YtmmmghpimdfleaaGreatDoor.storeKeeps
