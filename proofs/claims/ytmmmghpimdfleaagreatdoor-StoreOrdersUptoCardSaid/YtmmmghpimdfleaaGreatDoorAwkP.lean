/-
  A store of two records, the second of which refers to the first: what Add, Order and Cut answer of it.
-/
import Derived.Test.YtmmmghpimdfleaaGreatDoorGrpV
import Derived.Test.YtmmmghpimdfleaaGreatDoorGrpQ
import Derived.Test.YtmmmghpimdfleaaGreatDoorGrpJ
set_option linter.unusedVariables false
set_option linter.unusedSimpArgs false
namespace Go.Proofs.YtmmmghpimdfleaaGreatDoor.St
open Mem Tr
open Go.Proofs.YtmmmghpimdfleaaGreatDoor.Hp (le)

def leafT (t : ByteArray) : Tree := ⟨1, false, t, .nil⟩
theorem code_x : Sum.codeOf (leafT ⟨#[120]⟩) = 0 := by kernel_rfl
theorem code_y : Sum.codeOf (leafT ⟨#[121]⟩) = 0 := by kernel_rfl
theorem lab_a : Pre.labE ⟨#[97]⟩ = 0 := by kernel_rfl
theorem lab_b : Pre.labE ⟨#[98]⟩ = 0 := by kernel_rfl

variable (rc st : Nat → BitVec 32)
def rp : Rec := addRec rc st ⟨#[97]⟩ (leafT ⟨#[120]⟩) []
def rq : Rec := addRec rc st ⟨#[98]⟩ (leafT ⟨#[121]⟩) [(rp rc st).path]
theorem path_ne : (rp rc st).path ≠ (rq rc st).path := Pok.makeS_ne rc st _ _ _ _ 97 98 (by decide)
theorem parse_p : Pre.parseErr (rp rc st).path = 0 := Pok.parse_makeS rc st _ _ _ lab_a
theorem parse_q : Pre.parseErr (rq rc st).path = 0 := Pok.parse_makeS rc st _ _ _ lab_b
theorem refs_nil : Pre.refsE [] = 0 := by kernel_rfl
theorem refs_one {p : ByteArray} (h : Pre.parseErr p = 0) : Pre.refsE [p] = 0 := by
  refine Pre.refsE_ok (by simp) (fun k hk => ?_)
  obtain rfl : k = 0 := by simp at hk; exact hk
  unfold Pre.refBad
  simp [h, Pre.behindAt]
theorem valid_add {label : ByteArray} {T : Tree} {refs : List ByteArray} (h1 : Sum.codeOf T = 0) (h2 : Pre.labE label = 0) (h3 : Pre.refsE refs = 0) : Sto.validE rc st (addRec rc st label T refs) = 0 := by
  unfold Sto.validE
  rw [if_pos (show Pre.parseErr (addRec rc st label T refs).path = 0 from Pok.parse_makeS rc st refs _ label h2), if_pos (show Sum.codeOf (addRec rc st label T refs).tree = 0 from h1),
    if_pos (show (addRec rc st label T refs).size = ((Sum.bytesOf (addRec rc st label T refs).tree).length : Nat) from rfl), if_pos (show (addRec rc st label T refs).hash = Sum.digOf rc st (addRec rc st label T refs).tree from rfl)]
  exact h3
theorem make_ok {label : ByteArray} {refs : List ByteArray} (h2 : Pre.labE label = 0) (h3 : Pre.refsE refs = 0) : Make.makeErr refs label = 0 := by
  unfold Make.makeErr
  rw [if_pos h2]; exact h3

theorem ins_p : Sto.insE rc st [] (rp rc st) = 0 := by
  unfold Sto.insE
  rw [if_pos (show Sto.validE rc st (rp rc st) = 0 from valid_add rc st code_x lab_a refs_nil)]
  rfl
theorem add_p : addE rc st [] ⟨#[97]⟩ (leafT ⟨#[120]⟩) [] = 0 ∧ addS rc st [] ⟨#[97]⟩ (leafT ⟨#[120]⟩) [] = [rp rc st] ∧ addP rc st [] ⟨#[97]⟩ (leafT ⟨#[120]⟩) [] = (rp rc st).path := by
  have hm := make_ok lab_a refs_nil
  have hE : addE rc st [] ⟨#[97]⟩ (leafT ⟨#[120]⟩) [] = 0 := by
    unfold addE
    rw [if_pos code_x, if_pos hm]
    exact ins_p rc st
  refine ⟨hE, ?_, ?_⟩
  · unfold addS
    rw [if_pos ⟨code_x, hm⟩]
    unfold Sto.insS
    rw [if_pos (show Sto.insE rc st [] (addRec rc st ⟨#[97]⟩ (leafT ⟨#[120]⟩) []) = 0 from ins_p rc st)]
    rfl
  · unfold addP
    rw [if_pos hE]; rfl

theorem get_pq : Sp.get Rec.path [rp rc st] (rq rc st).path = none := by
  unfold Sp.get
  rw [List.find?_cons_of_neg (by simpa using path_ne rc st)]
  rfl
theorem get_pp : Sp.get Rec.path [rp rc st] (rp rc st).path = some (rp rc st) := by
  unfold Sp.get
  rw [List.find?_cons_of_pos (by simp)]
theorem ins_q : Sto.insE rc st [rp rc st] (rq rc st) = 0 := by
  unfold Sto.insE
  rw [if_pos (show Sto.validE rc st (rq rc st) = 0 from valid_add rc st code_y lab_b (refs_one (parse_p rc st)))]
  have hl : Sto.lacks [rp rc st] (rq rc st) = false := by
    unfold Sto.lacks
    rw [List.any_eq_false]
    intro x hx
    obtain rfl : x = (rp rc st).path := by
      have : x ∈ [(rp rc st).path] := hx
      simpa using this
    unfold Sto.has
    rw [get_pp]
    simp
  rw [hl, get_pq]
  rfl
/-- the store with both -/
def two (rc st : Nat → BitVec 32) : List Rec := Sp.put Rec.path [rp rc st] (rq rc st)
theorem add_q : addE rc st [rp rc st] ⟨#[98]⟩ (leafT ⟨#[121]⟩) [(rp rc st).path] = 0 ∧ addS rc st [rp rc st] ⟨#[98]⟩ (leafT ⟨#[121]⟩) [(rp rc st).path] = two rc st ∧ addP rc st [rp rc st] ⟨#[98]⟩ (leafT ⟨#[121]⟩) [(rp rc st).path] = (rq rc st).path := by
  have hm := make_ok lab_b (refs_one (parse_p rc st))
  have hE : addE rc st [rp rc st] ⟨#[98]⟩ (leafT ⟨#[121]⟩) [(rp rc st).path] = 0 := by
    unfold addE
    rw [if_pos code_y, if_pos hm]
    exact ins_q rc st
  refine ⟨hE, ?_, ?_⟩
  · unfold addS
    rw [if_pos ⟨code_y, hm⟩]
    unfold Sto.insS
    rw [if_pos (show Sto.insE rc st [rp rc st] (addRec rc st ⟨#[98]⟩ (leafT ⟨#[121]⟩) [(rp rc st).path]) = 0 from ins_q rc st)]
    rw [show (addRec rc st ⟨#[98]⟩ (leafT ⟨#[121]⟩) [(rp rc st).path]) = rq rc st from rfl, get_pq]
    rfl
  · unfold addP
    rw [if_pos hE]; rfl
theorem mem_two {r : Rec} : r ∈ two rc st ↔ r = rq rc st ∨ r = rp rc st := by
  unfold two
  rw [Sp.mem_put]
  simp
theorem two_len : (two rc st).length = 2 := by unfold two; rw [Sp.put_length]; rfl
theorem good_two : Sto.Good rc st (two rc st) := by
  have g1 : Sto.Good rc st [rp rc st] := by
    have h := Sto.good_ins (r := rp rc st) (rs := []) (rc := rc) (st := st) ⟨List.Pairwise.nil, by simp, by simp, by simp⟩ (by
      unfold Rec.bulk
      rw [show (rp rc st).path.size = 46 + 1 from makeS_size rc st _ _ _]
      show 46 + 1 + (leafT ⟨#[120]⟩).bulk + bulks [] ≤ _
      decide)
    unfold Sto.insS at h
    rw [if_pos (ins_p rc st)] at h
    exact h
  have h := Sto.good_ins (r := rq rc st) g1 (by
    unfold Rec.bulk
    rw [show (rq rc st).path.size = 46 + 1 from makeS_size rc st _ _ _]
    show 46 + 1 + _ + bulks [(rp rc st).path] ≤ _
    unfold bulks
    rw [show (rp rc st).path.size = 46 + 1 from makeS_size rc st _ _ _]
    show 46 + 1 + (leafT ⟨#[121]⟩).bulk + (46 + 1 + 1 + bulks []) ≤ _
    decide)
  unfold Sto.insS at h
  rw [if_pos (ins_q rc st), get_pq] at h
  exact h
theorem has_two {p : ByteArray} (h : p = (rp rc st).path ∨ p = (rq rc st).path) : Sto.has (two rc st) p = true := by
  unfold Sto.has
  rcases h with rfl | rfl
  · rw [Sp.get_of_mem (good_two rc st).rise ((mem_two rc st).2 (.inr rfl))]; rfl
  · rw [Sp.get_of_mem (good_two rc st).rise ((mem_two rc st).2 (.inl rfl))]; rfl
theorem rch_two {p : ByteArray} : Rch (two rc st) [(rq rc st).path] p ↔ p = (rp rc st).path ∨ p = (rq rc st).path := by
  constructor
  · intro h
    induction h with
    | root h1 => simp at h1; exact .inr h1
    | @step r q h1 hr hq ih =>
      rcases (mem_two rc st).1 hr with rfl | rfl
      · have : q ∈ [(rp rc st).path] := hq
        simp at this; exact .inl this
      · have : q ∈ ([] : List ByteArray) := hq
        simp at this
  · rintro (rfl | rfl)
    · exact .step (r := rq rc st) (.root (by simp)) ((mem_two rc st).2 (.inl rfl)) (show (rp rc st).path ∈ [(rp rc st).path] by simp)
    · exact .root (by simp)
theorem order_two {gs : Got} {out : List ByteArray} (h1 : (paths gs).Nodup) (h2 : ∀ x ∈ gs, x.1 ∈ two rc st) (h3 : ∀ p, p ∈ paths gs ↔ Rch (two rc st) [(rq rc st).path] p) (h : OrdSpec gs out) : out = [(rp rc st).path, (rq rc st).path] := by
  have hp : (rp rc st).path ∈ paths gs := (h3 _).2 ((rch_two rc st).2 (.inl rfl))
  have hq : (rq rc st).path ∈ paths gs := (h3 _).2 ((rch_two rc st).2 (.inr rfl))
  have hne := path_ne rc st
  have dp : deps gs (rp rc st).path = [] := by
    obtain ⟨x, hx, e⟩ := List.mem_map.1 hp
    unfold deps
    rw [← e, refsOf_mem h1 hx]
    rcases (mem_two rc st).1 (h2 x hx) with e1 | e1
    · rw [e1] at e; exact absurd e hne.symm
    · rw [e1]; rfl
  have dq : deps gs (rq rc st).path = [(rp rc st).path] := by
    obtain ⟨x, hx, e⟩ := List.mem_map.1 hq
    unfold deps
    rw [← e, refsOf_mem h1 hx]
    rcases (mem_two rc st).1 (h2 x hx) with e1 | e1
    · rw [e1]
      show List.filter _ [(rp rc st).path] = _
      rw [List.filter_cons_of_pos (by simpa using hne)]
      rfl
    · rw [e1] at e; exact absurd e hne
  have hall : ∀ u ∈ paths gs, u = (rp rc st).path ∨ u = (rq rc st).path := fun u hu => (rch_two rc st).1 ((h3 u).1 hu)
  have r0 : ready gs [] (rp rc st).path := ⟨hp, by simp, by rw [dp]; simp⟩
  have r1 : ready gs [(rp rc st).path] (rq rc st).path := ⟨hq, by simpa using hne.symm, by rw [dq]; simp⟩
  obtain ⟨hs, hf⟩ := h
  cases out with
  | nil => exact absurd r0 (hf _)
  | cons a l =>
    have ha := (hs 0 (by simp)).1
    have ea : a = (rp rc st).path := by
      have h4 : ready gs [] a := by simpa using ha
      rcases hall a h4.1 with e | e
      · exact e
      · have h5 := h4.2.2
        rw [e, dq] at h5
        exact absurd (h5 (rp rc st).path (by simp)) (by simp)
    subst ea
    cases l with
    | nil => exact absurd r1 (hf _)
    | cons b l =>
      have hb := (hs 1 (by simp)).1
      have eb : b = (rq rc st).path := by
        have h4 : ready gs [(rp rc st).path] b := by simpa using hb
        rcases hall b h4.1 with e | e
        · exact absurd (show b ∈ [(rp rc st).path] by simp [e]) h4.2.1
        · exact e
      subst eb
      cases l with
      | nil => rfl
      | cons c l =>
        have hc := (hs 2 (by simp)).1
        have h4 : ready gs [(rp rc st).path, (rq rc st).path] c := by simpa using hc
        rcases hall c h4.1 with e | e
        · exact absurd (show c ∈ [(rp rc st).path, (rq rc st).path] by simp [e]) h4.2.1
        · exact absurd (show c ∈ [(rp rc st).path, (rq rc st).path] by simp [e]) h4.2.1
theorem refd_two : refd (two rc st) (rp rc st).path ≠ [] := by
  have h : rq rc st ∈ (two rc st).filter (refers (rp rc st).path) := by
    rw [List.mem_filter]
    refine ⟨(mem_two rc st).2 (.inl rfl), ?_⟩
    unfold refers
    rw [Bool.and_eq_true]
    refine ⟨by simpa using (path_ne rc st).symm, ?_⟩
    rw [List.any_eq_true]
    exact ⟨(rp rc st).path, (show (rp rc st).path ∈ [(rp rc st).path] by simp), by simp⟩
  unfold refd
  intro e
  rw [List.map_eq_nil_iff] at e
  rw [e] at h
  cases h
end Go.Proofs.YtmmmghpimdfleaaGreatDoor.St
