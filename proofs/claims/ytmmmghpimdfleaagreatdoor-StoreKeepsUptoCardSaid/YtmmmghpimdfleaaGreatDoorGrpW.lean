/-
  A store of two records, the second of which refers to the first: what Add, Order and Cut answer of it.
  The chapter's fixed question of the program: a tree added is there, and another that refers to it.
-/
import Derived.Test.YtmmmghpimdfleaaGreatDoorGrpV
import Derived.Test.YtmmmghpimdfleaaGreatDoorGrpQ
import Derived.Test.YtmmmghpimdfleaaGreatDoorGrpJ
import Derived.Test.YtmmmghpimdfleaaGreatDoorStock
set_option linter.unusedVariables false
set_option linter.unusedSimpArgs false
namespace Go.Proofs.YtmmmghpimdfleaaGreatDoor.St
open Mem Tr
open Go.Proofs.YtmmmghpimdfleaaGreatDoor.Hp (le)

def leafT (t : ByteArray) : Tree := ⟨1, false, t, .nil⟩
theorem code_x : Sum.codeOf (leafT ⟨#[120]⟩) = 0 := by kernel_rfl
theorem code_y : Sum.codeOf (leafT ⟨#[121]⟩) = 0 := by kernel_rfl
theorem lab_a : Pre.labE ⟨#[97]⟩ = 0 := by kernel_rfl
theorem lab_b : Pre.labE ⟨#[98]⟩ = 0 := by kernel_rfl

variable (rc st : Nat → BitVec 32)
def rp : Rec := addRec rc st ⟨#[97]⟩ (leafT ⟨#[120]⟩) []
def rq : Rec := addRec rc st ⟨#[98]⟩ (leafT ⟨#[121]⟩) [(rp rc st).path]
theorem path_ne : (rp rc st).path ≠ (rq rc st).path := Pok.makeS_ne rc st _ _ _ _ 97 98 (by decide)
theorem parse_p : Pre.parseErr (rp rc st).path = 0 := Pok.parse_makeS rc st _ _ _ lab_a
theorem parse_q : Pre.parseErr (rq rc st).path = 0 := Pok.parse_makeS rc st _ _ _ lab_b
theorem refs_nil : Pre.refsE [] = 0 := by kernel_rfl
theorem refs_one {p : ByteArray} (h : Pre.parseErr p = 0) : Pre.refsE [p] = 0 := by
  refine Pre.refsE_ok (by simp) (fun k hk => ?_)
  obtain rfl : k = 0 := by simp at hk; exact hk
  unfold Pre.refBad
  simp [h, Pre.behindAt]
theorem valid_add {label : ByteArray} {T : Tree} {refs : List ByteArray} (h1 : Sum.codeOf T = 0) (h2 : Pre.labE label = 0) (h3 : Pre.refsE refs = 0) : Sto.validE rc st (addRec rc st label T refs) = 0 := by
  unfold Sto.validE
  rw [if_pos (show Pre.parseErr (addRec rc st label T refs).path = 0 from Pok.parse_makeS rc st refs _ label h2), if_pos (show Sum.codeOf (addRec rc st label T refs).tree = 0 from h1),
    if_pos (show (addRec rc st label T refs).size = ((Sum.bytesOf (addRec rc st label T refs).tree).length : Nat) from rfl), if_pos (show (addRec rc st label T refs).hash = Sum.digOf rc st (addRec rc st label T refs).tree from rfl)]
  exact h3
theorem make_ok {label : ByteArray} {refs : List ByteArray} (h2 : Pre.labE label = 0) (h3 : Pre.refsE refs = 0) : Make.makeErr refs label = 0 := by
  unfold Make.makeErr
  rw [if_pos h2]; exact h3

theorem ins_p : Sto.insE rc st [] (rp rc st) = 0 := by
  unfold Sto.insE
  rw [if_pos (show Sto.validE rc st (rp rc st) = 0 from valid_add rc st code_x lab_a refs_nil)]
  rfl
theorem add_p : addE rc st [] ⟨#[97]⟩ (leafT ⟨#[120]⟩) [] = 0 ∧ addS rc st [] ⟨#[97]⟩ (leafT ⟨#[120]⟩) [] = [rp rc st] ∧ addP rc st [] ⟨#[97]⟩ (leafT ⟨#[120]⟩) [] = (rp rc st).path := by
  have hm := make_ok lab_a refs_nil
  have hE : addE rc st [] ⟨#[97]⟩ (leafT ⟨#[120]⟩) [] = 0 := by
    unfold addE
    rw [if_pos code_x, if_pos hm]
    exact ins_p rc st
  refine ⟨hE, ?_, ?_⟩
  · unfold addS
    rw [if_pos ⟨code_x, hm⟩]
    unfold Sto.insS
    rw [if_pos (show Sto.insE rc st [] (addRec rc st ⟨#[97]⟩ (leafT ⟨#[120]⟩) []) = 0 from ins_p rc st)]
    rfl
  · unfold addP
    rw [if_pos hE]; rfl

theorem get_pq : Sp.get Rec.path [rp rc st] (rq rc st).path = none := by
  unfold Sp.get
  rw [List.find?_cons_of_neg (by simpa using path_ne rc st)]
  rfl
theorem get_pp : Sp.get Rec.path [rp rc st] (rp rc st).path = some (rp rc st) := by
  unfold Sp.get
  rw [List.find?_cons_of_pos (by simp)]
theorem ins_q : Sto.insE rc st [rp rc st] (rq rc st) = 0 := by
  unfold Sto.insE
  rw [if_pos (show Sto.validE rc st (rq rc st) = 0 from valid_add rc st code_y lab_b (refs_one (parse_p rc st)))]
  have hl : Sto.lacks [rp rc st] (rq rc st) = false := by
    unfold Sto.lacks
    rw [List.any_eq_false]
    intro x hx
    obtain rfl : x = (rp rc st).path := by
      have : x ∈ [(rp rc st).path] := hx
      simpa using this
    unfold Sto.has
    rw [get_pp]
    simp
  rw [hl, get_pq]
  rfl
/-- the store with both -/
def two (rc st : Nat → BitVec 32) : List Rec := Sp.put Rec.path [rp rc st] (rq rc st)
theorem add_q : addE rc st [rp rc st] ⟨#[98]⟩ (leafT ⟨#[121]⟩) [(rp rc st).path] = 0 ∧ addS rc st [rp rc st] ⟨#[98]⟩ (leafT ⟨#[121]⟩) [(rp rc st).path] = two rc st ∧ addP rc st [rp rc st] ⟨#[98]⟩ (leafT ⟨#[121]⟩) [(rp rc st).path] = (rq rc st).path := by
  have hm := make_ok lab_b (refs_one (parse_p rc st))
  have hE : addE rc st [rp rc st] ⟨#[98]⟩ (leafT ⟨#[121]⟩) [(rp rc st).path] = 0 := by
    unfold addE
    rw [if_pos code_y, if_pos hm]
    exact ins_q rc st
  refine ⟨hE, ?_, ?_⟩
  · unfold addS
    rw [if_pos ⟨code_y, hm⟩]
    unfold Sto.insS
    rw [if_pos (show Sto.insE rc st [rp rc st] (addRec rc st ⟨#[98]⟩ (leafT ⟨#[121]⟩) [(rp rc st).path]) = 0 from ins_q rc st)]
    rw [show (addRec rc st ⟨#[98]⟩ (leafT ⟨#[121]⟩) [(rp rc st).path]) = rq rc st from rfl, get_pq]
    rfl
  · unfold addP
    rw [if_pos hE]; rfl
theorem mem_two {r : Rec} : r ∈ two rc st ↔ r = rq rc st ∨ r = rp rc st := by
  unfold two
  rw [Sp.mem_put]
  simp
theorem two_len : (two rc st).length = 2 := by unfold two; rw [Sp.put_length]; rfl
theorem good_two : Sto.Good rc st (two rc st) := by
  have g1 : Sto.Good rc st [rp rc st] := by
    have h := Sto.good_ins (r := rp rc st) (rs := []) (rc := rc) (st := st) ⟨List.Pairwise.nil, by simp, by simp, by simp⟩ (by
      unfold Rec.bulk
      rw [show (rp rc st).path.size = 46 + 1 from makeS_size rc st _ _ _]
      show 46 + 1 + (leafT ⟨#[120]⟩).bulk + bulks [] ≤ _
      decide)
    unfold Sto.insS at h
    rw [if_pos (ins_p rc st)] at h
    exact h
  have h := Sto.good_ins (r := rq rc st) g1 (by
    unfold Rec.bulk
    rw [show (rq rc st).path.size = 46 + 1 from makeS_size rc st _ _ _]
    show 46 + 1 + _ + bulks [(rp rc st).path] ≤ _
    unfold bulks
    rw [show (rp rc st).path.size = 46 + 1 from makeS_size rc st _ _ _]
    show 46 + 1 + (leafT ⟨#[121]⟩).bulk + (46 + 1 + 1 + bulks []) ≤ _
    decide)
  unfold Sto.insS at h
  rw [if_pos (ins_q rc st), get_pq] at h
  exact h
theorem has_two {p : ByteArray} (h : p = (rp rc st).path ∨ p = (rq rc st).path) : Sto.has (two rc st) p = true := by
  unfold Sto.has
  rcases h with rfl | rfl
  · rw [Sp.get_of_mem (good_two rc st).rise ((mem_two rc st).2 (.inr rfl))]; rfl
  · rw [Sp.get_of_mem (good_two rc st).rise ((mem_two rc st).2 (.inl rfl))]; rfl
theorem rch_two {p : ByteArray} : Rch (two rc st) [(rq rc st).path] p ↔ p = (rp rc st).path ∨ p = (rq rc st).path := by
  constructor
  · intro h
    induction h with
    | root h1 => simp at h1; exact .inr h1
    | @step r q h1 hr hq ih =>
      rcases (mem_two rc st).1 hr with rfl | rfl
      · have : q ∈ [(rp rc st).path] := hq
        simp at this; exact .inl this
      · have : q ∈ ([] : List ByteArray) := hq
        simp at this
  · rintro (rfl | rfl)
    · exact .step (r := rq rc st) (.root (by simp)) ((mem_two rc st).2 (.inl rfl)) (show (rp rc st).path ∈ [(rp rc st).path] by simp)
    · exact .root (by simp)
theorem order_two {gs : Got} {out : List ByteArray} (h1 : (paths gs).Nodup) (h2 : ∀ x ∈ gs, x.1 ∈ two rc st) (h3 : ∀ p, p ∈ paths gs ↔ Rch (two rc st) [(rq rc st).path] p) (h : OrdSpec gs out) : out = [(rp rc st).path, (rq rc st).path] := by
  have hp : (rp rc st).path ∈ paths gs := (h3 _).2 ((rch_two rc st).2 (.inl rfl))
  have hq : (rq rc st).path ∈ paths gs := (h3 _).2 ((rch_two rc st).2 (.inr rfl))
  have hne := path_ne rc st
  have dp : deps gs (rp rc st).path = [] := by
    obtain ⟨x, hx, e⟩ := List.mem_map.1 hp
    unfold deps
    rw [← e, refsOf_mem h1 hx]
    rcases (mem_two rc st).1 (h2 x hx) with e1 | e1
    · rw [e1] at e; exact absurd e hne.symm
    · rw [e1]; rfl
  have dq : deps gs (rq rc st).path = [(rp rc st).path] := by
    obtain ⟨x, hx, e⟩ := List.mem_map.1 hq
    unfold deps
    rw [← e, refsOf_mem h1 hx]
    rcases (mem_two rc st).1 (h2 x hx) with e1 | e1
    · rw [e1]
      show List.filter _ [(rp rc st).path] = _
      rw [List.filter_cons_of_pos (by simpa using hne)]
      rfl
    · rw [e1] at e; exact absurd e hne
  have hall : ∀ u ∈ paths gs, u = (rp rc st).path ∨ u = (rq rc st).path := fun u hu => (rch_two rc st).1 ((h3 u).1 hu)
  have r0 : ready gs [] (rp rc st).path := ⟨hp, by simp, by rw [dp]; simp⟩
  have r1 : ready gs [(rp rc st).path] (rq rc st).path := ⟨hq, by simpa using hne.symm, by rw [dq]; simp⟩
  obtain ⟨hs, hf⟩ := h
  cases out with
  | nil => exact absurd r0 (hf _)
  | cons a l =>
    have ha := (hs 0 (by simp)).1
    have ea : a = (rp rc st).path := by
      have h4 : ready gs [] a := by simpa using ha
      rcases hall a h4.1 with e | e
      · exact e
      · have h5 := h4.2.2
        rw [e, dq] at h5
        exact absurd (h5 (rp rc st).path (by simp)) (by simp)
    subst ea
    cases l with
    | nil => exact absurd r1 (hf _)
    | cons b l =>
      have hb := (hs 1 (by simp)).1
      have eb : b = (rq rc st).path := by
        have h4 : ready gs [(rp rc st).path] b := by simpa using hb
        rcases hall b h4.1 with e | e
        · exact absurd (show b ∈ [(rp rc st).path] by simp [e]) h4.2.1
        · exact e
      subst eb
      cases l with
      | nil => rfl
      | cons c l =>
        have hc := (hs 2 (by simp)).1
        have h4 : ready gs [(rp rc st).path, (rq rc st).path] c := by simpa using hc
        rcases hall c h4.1 with e | e
        · exact absurd (show c ∈ [(rp rc st).path, (rq rc st).path] by simp [e]) h4.2.1
        · exact absurd (show c ∈ [(rp rc st).path, (rq rc st).path] by simp [e]) h4.2.1
theorem refd_two : refd (two rc st) (rp rc st).path ≠ [] := by
  have h : rq rc st ∈ (two rc st).filter (refers (rp rc st).path) := by
    rw [List.mem_filter]
    refine ⟨(mem_two rc st).2 (.inl rfl), ?_⟩
    unfold refers
    rw [Bool.and_eq_true]
    refine ⟨by simpa using (path_ne rc st).symm, ?_⟩
    rw [List.any_eq_true]
    exact ⟨(rp rc st).path, (show (rp rc st).path ∈ [(rp rc st).path] by simp), by simp⟩
  unfold refd
  intro e
  rw [List.map_eq_nil_iff] at e
  rw [e] at h
  cases h
end Go.Proofs.YtmmmghpimdfleaaGreatDoor.St

set_option linter.unusedVariables false
namespace Go.Proofs.YtmmmghpimdfleaaGreatDoor.St
open Go.RowKit Mem Tr
open Go.Proofs.YtmmmghpimdfleaaGreatDoor.Own

set_option maxRecDepth 20000 in
theorem leafC (t : ByteArray) (w : World) : Calls Tryz.prog 64 #[.string t] w fun e w' => e = .returned (Sum.nodeV (leafT t) (.slice none 0 0)) ∧ Below w.heap.size w w' := by
  go_enter Tryz.func64, Tryz.ntmps64
  go_wp2_with fail
  have hx := Bx.new w #[.int .i64 1, .bool false, .string t, .slice none 0 0] 26
  have hlv := run_loadVar_mid (P := Tryz.prog) _ w.heap.size 0 26 [.int .i64 1, .bool false, .string t, .slice none 0 0] _ (by have := hx.range; simpa using this) Tryz.underlying26 rfl (by kernel_rfl)
  exact bodyPost_ret (v := Sum.nodeV (leafT t) (.slice none 0 0)) (results_cell Tryz.results64 rfl hlv) rfl ⟨rfl, (Below.refl _ w).alloc (Nat.le_refl _) _⟩

theorem good_one (rc st : Nat → BitVec 32) : Sto.Good rc st [rp rc st] := by
  have h := Sto.good_ins (r := rp rc st) (rs := []) (rc := rc) (st := st) ⟨List.Pairwise.nil, by simp, by simp, by simp⟩ (by
    unfold Rec.bulk
    rw [show (rp rc st).path.size = 46 + 1 from makeS_size rc st _ _ _]
    show 46 + 1 + (leafT ⟨#[120]⟩).bulk + bulks [] ≤ _
    decide)
  unfold Sto.insS at h
  rw [if_pos (ins_p rc st)] at h
  exact h
theorem strs_one (w : World) (p : ByteArray) : Strs (fun b => b = w.heap.size) (w.alloc (.cells #[.string p] 9)) (.slice (some ⟨w.heap.size, 0, none⟩) 1 1) [p] :=
  ⟨some ⟨w.heap.size, 0, none⟩, 1, rfl, Nat.le_refl _, by unfold maxLen; omega, .inr ⟨w.heap.size, 0, rfl, rfl, fun j hj => by
    obtain rfl : j = 0 := by simpa using hj
    exact (Bx.new w #[.string p] 9).cell 0⟩⟩

set_option maxRecDepth 20000 in
set_option maxHeartbeats 4000000 in
theorem awakeC (rc st : Nat → BitVec 32) (w : World) (hg : Sum.Gl rc st w) : Calls Tryz.prog 18 #[] w fun e w' => e = .returned (.bool true) ∧ Below w.heap.size w w' := by
  have HG := Lib.hid hg
  clear hg
  go_enter Tryz.func18, Tryz.ntmps18
  go_wp2_with fail
  refine (newC w).mono ?_
  rintro e w1 ⟨M, F, s, rfl, h1, hMF, b1⟩
  have H1 := Lib.hid h1
  have HMF := Lib.hid hMF
  clear h1 hMF
  go_wp2_with fail
  refine (leafC _ w1).mono ?_
  rintro e w2 ⟨rfl, b2⟩
  have B2 := b1.trans (b2.mono b1.size)
  unfold Sum.nodeV
  go_wp2_with fail
  refine (addC rc st M F (fun _ => False) (fun _ => False) s [] ⟨#[97]⟩ (leafT ⟨#[120]⟩) [] (.slice none 0 0) (.slice none 0 0) w2 (H1.out.below b2) (HG.out.below B2) ?k1 ?k2 (fun _ h => h.elim) (fun _ h => h.elim) ?k3 ?k4 ?k5 ?k6 (by simp)).mono ?_
  case k1 => exact ⟨none, 0, rfl, Nat.le_refl _, Nat.zero_le _, .inl rfl⟩
  case k2 => exact ⟨none, 0, rfl, Nat.le_refl _, Nat.zero_le _, .inl rfl⟩
  case k3 => intro n cap h; cases h; rfl
  case k4 => exact ⟨List.Pairwise.nil, by simp, by simp, by simp⟩
  case k5 => decide
  case k6 => decide
  obtain ⟨x1, x2, x3⟩ := add_p rc st
  rw [x1, x2, x3]
  rintro e w3 ⟨rfl, M2, F2, h3, k3, m3, f3⟩
  obtain ⟨p, hp⟩ : ∃ p, (rp rc st).path = p := ⟨_, rfl⟩
  rw [hp]
  have HP := Lib.hid hp
  have H3 := Lib.hid h3
  have B3 := B2.trans (k3.below B2.size (fun i hi hm => by have := HMF.out i (.inl hm); omega))
  have HMF2 := Lib.hid (show ∀ b, M2 b ∨ F2 b → w.heap.size ≤ b from fun b hb => by
    have hz := B2.size
    rcases hb with h | h
    · rcases m3 b h with h | h
      · exact HMF.out b (.inl h)
      · omega
    · rcases f3 b h with h | h
      · exact HMF.out b (.inr h)
      · omega)
  clear h3 k3 m3 f3 hp x1 x2 x3
  go_wp2_with fail
  refine (leafC _ w3).mono ?_
  rintro e w4 ⟨rfl, b4⟩
  have B4 := B3.trans (b4.mono B3.size)
  unfold Sum.nodeV
  go_wp2_with fail
  refine calls_named fun w5 hw5 => ?_
  have hst := strs_one w4 p
  rw [hw5] at hst
  obtain ⟨b5, x5⟩ := alloc_fact hw5
  have HST := Lib.hid hst
  have l5 := x5.lt
  have B5 := B4.trans (b5.mono B4.size)
  clear hw5 x5 hst
  have b35 : Below w3.heap.size w3 w5 := b4.trans (b5.mono b4.size)
  refine (addC rc st M2 F2 (fun _ => False) (fun b => b = w4.heap.size) s [rp rc st] ⟨#[98]⟩ (leafT ⟨#[121]⟩) [p] (.slice none 0 0) (.slice (some ⟨w4.heap.size, 0, none⟩) 1 1) w5 (H3.out.below b35) (HG.out.below B5) ?q1 HST.out (fun _ h => h.elim) (fun b h => by rw [h]; exact l5) ?q3 (good_one rc st) ?q5 ?q6 (by simp)).mono ?_
  case q1 => exact ⟨none, 0, rfl, Nat.le_refl _, Nat.zero_le _, .inl rfl⟩
  case q3 => intro n cap h; cases h
  case q5 => decide
  case q6 =>
    unfold bulks bulks
    rw [← HP.out, show (rp rc st).path.size = 46 + 1 from makeS_size rc st _ _ _]
    decide
  obtain ⟨y1, y2, y3⟩ := add_q rc st
  rw [HP.out] at y1 y2 y3
  rw [y1, y2, y3]
  rintro e w6 ⟨rfl, M3, F3, h6, k6, m6, f6⟩
  obtain ⟨q, hq⟩ : ∃ q, (rq rc st).path = q := ⟨_, rfl⟩
  rw [hq]
  have HQ := Lib.hid hq
  have H6 := Lib.hid h6
  have B6 := B5.trans (k6.below B5.size (fun i hi hm => by have := HMF2.out i (.inl hm); omega))
  clear h6 k6 m6 f6 hq y1 y2 y3 b35
  go_wp2_with fail
  refine calls_named fun w7 hw7 => ?_
  have hst7 := strs_one w6 q
  rw [hw7] at hst7
  obtain ⟨b7, x7⟩ := alloc_fact hw7
  have HST7 := Lib.hid hst7
  have B7 := B6.trans (b7.mono B6.size)
  clear hw7 x7 hst7
  have hsz : ∀ x, Rch (two rc st) [q] x → x.size ≤ maxLen := fun x hx => by
    rw [← HQ.out] at hx
    rcases (rch_two rc st).1 hx with rfl | rfl
    · rw [show (rp rc st).path.size = 46 + 1 from makeS_size rc st _ _ _]; unfold maxLen; omega
    · rw [show (rq rc st).path.size = 46 + 1 from makeS_size rc st _ _ _]; unfold maxLen; omega
  have hwt : [q].length + wt (fun _ => none) (two rc st) ≤ 1099511627776 := by
    show 1 + wt0 (Sp.put Rec.path [rp rc st] (rq rc st)) ≤ _
    rw [wt0_put]
    show 1 + (0 + 0 + 1) ≤ _
    decide
  refine (orderC M3 F3 (fun b => b = w6.heap.size) s (two rc st) _ [q] w7 (H6.out.below b7) (by rw [two_len]; decide) HST7.out hwt hsz).mono ?_
  rintro e w8 ⟨b8, ⟨x, hx1, hx2, _⟩ | ⟨v, gs, out, rfl, hrow, hnd, hin, hrch, hord⟩⟩
  · rw [← HQ.out] at hx1
    rw [has_two rc st ((rch_two rc st).1 hx1)] at hx2
    cases hx2
  rw [← HQ.out] at hrch
  obtain rfl := order_two rc st hnd hin hrch hord
  rw [HP.out, HQ.out] at hrow
  unfold SRow at hrow
  obtain ⟨g, cap, rfl⟩ := ownsRow_succ hrow
  have c0 : w8.cell? ⟨g, 0, none⟩ = some (.string p) := by
    have := hrow.cells (g := g) rfl 0 (.string p) rfl
    rwa [Addr.add_lit] at this
  have c1 : w8.cell? ⟨g, 1, none⟩ = some (.string q) := by
    have := hrow.cells (g := g) rfl 1 (.string q) rfl
    rwa [Addr.add_lit] at this
  have B8 := B7.trans (b8.mono B7.size)
  have t1 : (p.toList == p.toList) = true := by simp
  have t2 : (q.toList == q.toList) = true := by simp
  have HC := Lib.hid (cutNoC M3 F3 s (two rc st) p w8 (H6.out.below (b7.trans (b8.mono b7.size))) (by rw [two_len]; decide) (.inr (by rw [← HP.out]; exact refd_two rc st)))
  have HH := Lib.hid (has_two rc st (.inl HP.out.symm))
  clear hrow hnd hin hrch hord hsz hwt
  go_wp2_with fail
  refine HC.out.mono ?_
  rintro e w9 ⟨b9, rfl⟩
  rw [HH.out, if_pos rfl]
  go_wp2_with fail
  go_ret
  exact ⟨rfl, B8.trans (b9.mono B8.size)⟩
end Go.Proofs.YtmmmghpimdfleaaGreatDoor.St
