/-
  In which order a sweep takes paths that refer to nothing.
-/
import Derived.Test.YtmmmghpimdfleaaGreatDoorGrpZA
set_option linter.unusedVariables false
set_option linter.unusedSimpArgs false
namespace Go.Proofs.YtmmmghpimdfleaaGreatDoor.Swp
open Mem Tr St

theorem fold_min {best : Bst} {rs : List Rec} (irr : ∀ a, best a a = false) (tr : ∀ a b c, best a b = true → best b c = true → best a c = true) : ∀ (D : List ByteArray) (acc : Option Rec) (r : Rec), D.foldl (stepP best rs) acc = some r →
    (∀ x a, acc = some a → best x a = false → best x r = false) ∧ ∀ p ∈ D, free rs p = true → ∀ q, Sp.get Rec.path rs p = some q → best q r = false
  | [], acc, r, h => ⟨fun x a ha hb => by
      have h : acc = some r := h
      rw [h] at ha
      obtain rfl := Option.some.inj ha
      exact hb, fun p hp => by cases hp⟩
  | p :: D, acc, r, h => by
    obtain ⟨h1, h2⟩ := fold_min irr tr D (stepP best rs acc p) r h
    have key : ∀ x a, acc = some a → best x a = false → ∃ a', stepP best rs acc p = some a' ∧ best x a' = false := by
      intro x a ha hb
      subst ha
      unfold stepP
      by_cases hf : free rs p = true
      · rw [if_pos hf]
        cases hg : Sp.get Rec.path rs p with
        | none => exact ⟨a, rfl, hb⟩
        | some q =>
          simp only
          by_cases hq : best q a = true
          · rw [if_pos hq]
            refine ⟨q, rfl, ?_⟩
            cases hx : best x q with
            | false => rfl
            | true => rw [tr _ _ _ hx hq] at hb; cases hb
          · rw [if_neg hq]; exact ⟨a, rfl, hb⟩
      · rw [if_neg hf]; exact ⟨a, rfl, hb⟩
    refine ⟨fun x a ha hb => ?_, fun y hy hf q hg => ?_⟩
    · obtain ⟨a', e, hb'⟩ := key x a ha hb
      exact h1 x a' e hb'
    · rcases List.mem_cons.1 hy with rfl | hy
      · have hs : ∃ a', stepP best rs acc y = some a' ∧ best q a' = false := by
          unfold stepP
          rw [if_pos hf, hg]
          cases acc with
          | none => exact ⟨q, rfl, irr q⟩
          | some a =>
            simp only
            by_cases hq : best q a = true
            · rw [if_pos hq]; exact ⟨q, rfl, irr q⟩
            · rw [if_neg hq]; exact ⟨a, rfl, by simpa using hq⟩
        obtain ⟨a', e, hb⟩ := hs
        exact h1 q a' e hb
      · exact h2 y hy hf q hg
theorem bst_irr (cnt : ByteArray → Int) (a : Rec) : bst cnt a a = false := by
  unfold bst ahead; rw [if_pos rfl]; exact Sp.lt_irrefl _
theorem bst_tr (cnt : ByteArray → Int) (a b c : Rec) (h : bst cnt a b = true) (k : bst cnt b c = true) : bst cnt a c = true := by
  unfold bst ahead at *
  by_cases h1 : sco cnt a = sco cnt b
  · rw [if_pos h1] at h
    by_cases h2 : sco cnt b = sco cnt c
    · rw [if_pos h2] at k
      rw [if_pos (h1.trans h2)]
      exact Sp.lt_trans h k
    · rw [if_neg h2, decide_eq_true_eq] at k
      rw [if_neg (by omega), decide_eq_true_eq]; omega
  · rw [if_neg h1, decide_eq_true_eq] at h
    by_cases h2 : sco cnt b = sco cnt c
    · rw [if_neg (by omega), decide_eq_true_eq]; omega
    · rw [if_neg h2, decide_eq_true_eq] at k
      rw [if_neg (by omega), decide_eq_true_eq]; omega
theorem way_pick {best : Bst} {rs0 : List Rec} (hr : Sp.Rising Rec.path rs0) {D : List ByteArray} {want : Int} : ∀ {n : Nat} {s : At}, itN best D want ⟨rs0, [], 0⟩ n = some s → ∀ k (h : k < s.out.length), ∃ r, pick best (wo rs0 (s.out.take k)) D = some r ∧ r.path = s.out[k]
  | 0, s, h => by
    obtain rfl := Option.some.inj h
    intro k hk; exact absurd hk (by simp)
  | n + 1, s', h => by
    cases hs : itN best D want ⟨rs0, [], 0⟩ n with
    | none => unfold itN at h; rw [hs] at h; cases h
    | some s =>
      have ih := way_pick hr hs
      have w := way hr hs
      unfold itN at h
      rw [hs] at h
      have h : next best D want s = some s' := h
      unfold next at h
      by_cases hf : s.freed < want
      · rw [if_pos hf] at h
        cases hp : pick best s.rs D with
        | none => rw [hp] at h; cases h
        | some r =>
          rw [hp] at h
          obtain rfl := Option.some.inj h
          intro k hk
          have hk : k < (s.out ++ [r.path]).length := hk
          show ∃ x, pick best (wo rs0 ((s.out ++ [r.path]).take k)) D = some x ∧ x.path = (s.out ++ [r.path])[k]
          rw [List.length_append, List.length_singleton] at hk
          by_cases e : k < s.out.length
          · rw [List.getElem_append_left e, List.take_append_of_le_length (by omega)]
            exact ih k e
          · obtain rfl : k = s.out.length := by omega
            rw [List.getElem_append_right (by omega), List.take_left' rfl]
            simp only [Nat.sub_self, List.getElem_cons_zero]
            exact ⟨r, by rw [← w.left]; exact hp, rfl⟩
      · rw [if_neg hf] at h; cases h
theorem refd_nil {rs : List Rec} (h : ∀ r ∈ rs, r.refs = []) (p : ByteArray) : refd rs p = [] := by
  unfold refd
  rw [List.map_eq_nil_iff, List.filter_eq_nil_iff]
  intro r hr
  unfold refers
  rw [h r hr]
  simp
/-- What a sweep of everything gives where nothing refers to anything. -/
theorem all_gone {cnt : ByteArray → Int} {rs : List Rec} {f : At} (hf : Fit rs) (hn : ∀ r ∈ rs, r.refs = []) (h : Fin (bst cnt) (deadL rs []) 4611686018427387904 rs f) :
    f.rs = [] ∧ f.out.length = rs.length ∧ f.out.Nodup ∧ (∀ p ∈ f.out, ∃ r, Sp.get Rec.path rs p = some r) ∧ ∀ k (h : k + 1 < f.out.length) (ra rb : Rec), Sp.get Rec.path rs (f.out[k]'(by omega)) = some ra → Sp.get Rec.path rs f.out[k + 1] = some rb → bst cnt rb ra = false := by
  have w := fin_way hf.rise h
  have hl : ∀ p, ¬ Lives rs [] p := by
    intro p hp
    unfold Lives there at hp
    induction hp with
    | root hm => simp at hm
    | step _ _ _ ih => exact ih
  have hac : Acyc rs := ⟨fun _ => 0, fun r hr q hq => by rw [hn r hr] at hq; cases hq⟩
  have hfr : f.freed < 4611686018427387904 := by
    have h1 := sizes_le hf.small f.out
    rw [← w.sum] at h1
    have h2 := w.len
    have h3 := hf.len
    omega
  have hnd := none_dead hf.rise hac hf.closed w (fin_end h hfr)
  have hrs : f.rs = [] := by
    cases hh : f.rs with
    | nil => rfl
    | cons r l => exact absurd ((hnd.2 r.path).2 ⟨r, by rw [hh]; exact List.mem_cons_self, rfl⟩) (hl _)
  have hin : ∀ r ∈ rs, r.path ∈ f.out := fun r hr => by
    refine Classical.byContradiction fun hno => ?_
    have : r ∈ f.rs := by rw [w.left]; exact mem_wo.2 ⟨hr, hno⟩
    rw [hrs] at this; cases this
  have hdead : ∀ p, p ∈ deadL rs [] ↔ Sto.has rs p = true := fun p => by rw [mem_dead, has_iff]; exact ⟨fun h => h.1, fun h => ⟨h, hl p⟩⟩
  refine ⟨hrs, ?_, w.nodup, fun p hp => Option.isSome_iff_exists.1 (w.mem p hp).2, ?_⟩
  · have hlm : (rs.map Rec.path).length = rs.length := List.length_map _
    rw [← hlm]
    refine Nat.le_antisymm (nodup_sub w.nodup fun p hp => ?_) (nodup_sub (Srt.ris_nodup (ris_paths hf.rise)) fun p hp => ?_)
    · obtain ⟨r, hr, e⟩ := has_iff.1 (w.mem p hp).2
      exact List.mem_map.2 ⟨r, hr, e⟩
    · obtain ⟨r, hr, rfl⟩ := List.mem_map.1 hp
      exact hin r hr
  · intro k hk ra rb ha hb
    obtain ⟨n, h1, _⟩ := h
    obtain ⟨r, hp, e⟩ := way_pick hf.rise h1 k (by omega)
    have hra : r = ra := by
      have h2 := (pick_some hp).1
      have h3 := Sp.get_of_mem hf.rise (mem_wo.1 h2).1
      rw [e, ha] at h3
      exact (Option.some.inj h3).symm
    subst hra
    have hno : f.out[k + 1] ∉ f.out.take k := fun hm => by
      obtain ⟨j, hj, hjk, e2⟩ := mem_take_lt hm
      have hnn := w.nodup
      rw [List.nodup_iff_pairwise_ne, List.pairwise_iff_getElem] at hnn
      exact hnn j (k + 1) hj hk (by omega) e2
    have hb2 : Sp.get Rec.path (wo rs (f.out.take k)) f.out[k + 1] = some rb := by
      have h4 := Sp.get_some hb
      have := Sp.get_of_mem (wo_rise hf.rise (f.out.take k)) (a := rb) (mem_wo.2 ⟨h4.1, by rw [h4.2]; exact hno⟩)
      rw [h4.2] at this; exact this
    refine (fold_min (bst_irr cnt) (bst_tr cnt) _ _ _ hp).2 f.out[k + 1] ((hdead _).2 (by unfold Sto.has; rw [hb]; rfl)) ?_ rb hb2
    unfold free
    rw [Bool.and_eq_true, decide_eq_true_eq]
    exact ⟨by unfold Sto.has; rw [hb2]; rfl, refd_nil (fun r hr => hn r (mem_wo.1 hr).1) _⟩
end Go.Proofs.YtmmmghpimdfleaaGreatDoor.Swp
