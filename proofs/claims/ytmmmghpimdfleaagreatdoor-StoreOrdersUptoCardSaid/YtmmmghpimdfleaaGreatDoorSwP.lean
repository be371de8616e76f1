/-
  What a sweep does, over a store's records: live and dead paths, the one that goes next, and what is left in the end.
-/
import Derived.Test.YtmmmghpimdfleaaGreatDoorAcyc
set_option linter.unusedVariables false
set_option linter.unusedSimpArgs false
namespace Go.Proofs.YtmmmghpimdfleaaGreatDoor.Swp
open Mem Tr St
open Classical

/-- the roots that are there -/
def there (rs : List Rec) (roots : List ByteArray) : List ByteArray := roots.filter fun q => Sto.has rs q
def Lives (rs : List Rec) (roots : List ByteArray) (p : ByteArray) : Prop := Rch rs (there rs roots) p
noncomputable def deadTo (rs : List Rec) (roots : List ByteArray) (l : List Rec) : List ByteArray := (l.filter fun r => decide (¬ Lives rs roots r.path)).map Rec.path
noncomputable def deadL (rs : List Rec) (roots : List ByteArray) : List ByteArray := deadTo rs roots rs
theorem deadTo_snoc (rs : List Rec) (roots : List ByteArray) (l : List Rec) (r : Rec) : deadTo rs roots (l ++ [r]) = deadTo rs roots l ++ (if Lives rs roots r.path then [] else [r.path]) := by
  unfold deadTo
  rw [List.filter_append, List.map_append]
  congr 1
  by_cases h : Lives rs roots r.path
  · rw [if_pos h, List.filter_cons_of_neg (by simpa using h)]; rfl
  · rw [if_neg h, List.filter_cons_of_pos (by simpa using h)]; rfl
theorem there_snoc (rs : List Rec) (l : List ByteArray) (q : ByteArray) : there rs (l ++ [q]) = there rs l ++ (if Sto.has rs q = true then [q] else []) := by
  unfold there
  rw [List.filter_append]
  congr 1
  by_cases h : Sto.has rs q = true
  · rw [if_pos h, List.filter_cons_of_pos h]; rfl
  · rw [if_neg h, List.filter_cons_of_neg h]; rfl
theorem mem_dead {rs : List Rec} {roots : List ByteArray} {p : ByteArray} : p ∈ deadL rs roots ↔ (∃ r ∈ rs, r.path = p) ∧ ¬ Lives rs roots p := by
  unfold deadL deadTo
  rw [List.mem_map]
  constructor
  · rintro ⟨r, hr, rfl⟩
    rw [List.mem_filter, decide_eq_true_eq] at hr
    exact ⟨⟨r, hr.1, rfl⟩, hr.2⟩
  · rintro ⟨⟨r, hr, rfl⟩, h⟩
    exact ⟨r, by rw [List.mem_filter, decide_eq_true_eq]; exact ⟨hr, h⟩, rfl⟩
theorem has_iff {rs : List Rec} {p : ByteArray} : Sto.has rs p = true ↔ ∃ r ∈ rs, r.path = p := by
  unfold Sto.has Sp.get
  rw [List.find?_isSome]
  constructor
  · rintro ⟨x, hx, e⟩; exact ⟨x, hx, of_decide_eq_true e⟩
  · rintro ⟨x, hx, e⟩; exact ⟨x, hx, decide_eq_true e⟩
theorem lives_has {rs : List Rec} {roots : List ByteArray} (hc : ∀ r ∈ rs, ∀ q ∈ r.refs, Sto.has rs q = true) {p : ByteArray} (h : Lives rs roots p) : Sto.has rs p = true := by
  unfold Lives at h
  induction h with
  | root hm => unfold there at hm; exact (List.mem_filter.1 hm).2
  | step _ hr hq _ => exact hc _ hr _ hq

/-- A choice between records by a score: is a ahead of b? -/
abbrev Bst := Rec → Rec → Bool
/-- may go: nothing refers to it -/
def free (rs : List Rec) (p : ByteArray) : Bool := Sto.has rs p && decide (refd rs p = [])
def stepP (best : Bst) (rs : List Rec) (acc : Option Rec) (p : ByteArray) : Option Rec :=
  if free rs p = true then (match Sp.get Rec.path rs p, acc with
    | some r, none => some r
    | some r, some a => if best r a = true then some r else some a
    | none, a => a) else acc
def pick (best : Bst) (rs : List Rec) (D : List ByteArray) : Option Rec := D.foldl (stepP best rs) none
theorem pick_take (best : Bst) (rs : List Rec) (D : List ByteArray) (k : Nat) (h : k < D.length) : pick best rs (D.take (k + 1)) = stepP best rs (pick best rs (D.take k)) D[k] := by
  unfold pick
  rw [List.take_succ_eq_append_getElem h, List.foldl_append]; rfl
theorem foldP {best : Bst} {rs : List Rec} (D : List ByteArray) : ∀ acc : Option Rec,
    (D.foldl (stepP best rs) acc = none → acc = none ∧ ∀ p ∈ D, free rs p = false) ∧
    ∀ r, D.foldl (stepP best rs) acc = some r → acc = some r ∨ (r ∈ rs ∧ r.path ∈ D ∧ free rs r.path = true) := by
  induction D with
  | nil => intro acc; exact ⟨fun h => ⟨h, fun p hp => by cases hp⟩, fun r h => .inl h⟩
  | cons p D ih =>
    intro acc
    obtain ⟨h1, h2⟩ := ih (stepP best rs acc p)
    rw [List.foldl_cons]
    constructor
    · intro h
      obtain ⟨e, hf⟩ := h1 h
      unfold stepP at e
      by_cases hp : free rs p = true
      · rw [if_pos hp] at e
        obtain ⟨r, hr⟩ : ∃ r, Sp.get Rec.path rs p = some r := Option.isSome_iff_exists.1 (by
          unfold free at hp; rw [Bool.and_eq_true] at hp; exact hp.1)
        rw [hr] at e
        cases acc with
        | none => cases e
        | some a => simp only at e; split at e <;> cases e
      · rw [if_neg hp] at e
        refine ⟨e, fun x hx => ?_⟩
        rcases List.mem_cons.1 hx with rfl | hx
        · simpa using hp
        · exact hf x hx
    · intro r h
      rcases h2 r h with e | ⟨m1, m2, m3⟩
      · unfold stepP at e
        by_cases hp : free rs p = true
        · rw [if_pos hp] at e
          obtain ⟨x, hx⟩ : ∃ r, Sp.get Rec.path rs p = some r := Option.isSome_iff_exists.1 (by
            unfold free at hp; rw [Bool.and_eq_true] at hp; exact hp.1)
          have hxm := Sp.get_some hx
          have fin : x = r → acc = some r ∨ (r ∈ rs ∧ r.path ∈ p :: D ∧ free rs r.path = true) := by
            rintro rfl
            exact .inr ⟨hxm.1, by rw [hxm.2]; exact List.mem_cons_self, by rw [hxm.2]; exact hp⟩
          rw [hx] at e
          cases acc with
          | none => exact fin (Option.some.inj e)
          | some a =>
            simp only at e
            split at e
            · exact fin (Option.some.inj e)
            · exact .inl e
        · rw [if_neg hp] at e; exact .inl e
      · exact .inr ⟨m1, List.mem_cons_of_mem _ m2, m3⟩
theorem pick_none {best : Bst} {rs : List Rec} {D : List ByteArray} (h : pick best rs D = none) : ∀ p ∈ D, free rs p = false := ((foldP D none).1 h).2
theorem pick_some {best : Bst} {rs : List Rec} {D : List ByteArray} {r : Rec} (h : pick best rs D = some r) : r ∈ rs ∧ r.path ∈ D ∧ free rs r.path = true := ((foldP D none).2 r h).resolve_left (by simp)

theorem mem_cut {rs : List Rec} {p : ByteArray} {r : Rec} : r ∈ Sp.cut Rec.path rs p ↔ r ∈ rs ∧ r.path ≠ p := by
  unfold Sp.cut; rw [List.mem_filter, decide_eq_true_eq]
theorem cut_len {rs : List Rec} {r : Rec} (h : r ∈ rs) : (Sp.cut Rec.path rs r.path).length + 1 ≤ rs.length := by
  unfold Sp.cut
  induction rs with
  | nil => cases h
  | cons x l ih =>
    by_cases e : x.path = r.path
    · rw [List.filter_cons_of_neg (by simp [e]), List.length_cons]
      have := List.length_filter_le (fun x : Rec => decide (x.path ≠ r.path)) l
      omega
    · rw [List.filter_cons_of_pos (by simp [e]), List.length_cons, List.length_cons]
      have := ih ((List.mem_cons.1 h).resolve_left (fun h1 => e (by rw [h1])))
      omega
/-- A store without some paths. -/
def wo (rs : List Rec) (L : List ByteArray) : List Rec := rs.filter fun r => !(L.any fun x => decide (x = r.path))
theorem mem_wo {rs : List Rec} {L : List ByteArray} {r : Rec} : r ∈ wo rs L ↔ r ∈ rs ∧ r.path ∉ L := by
  unfold wo
  rw [List.mem_filter, Bool.not_eq_true', List.any_eq_false]
  constructor
  · rintro ⟨h, hx⟩; exact ⟨h, fun hm => hx _ hm (decide_eq_true rfl)⟩
  · rintro ⟨h, hx⟩; exact ⟨h, fun x hm e => hx (by rw [← of_decide_eq_true e]; exact hm)⟩
theorem wo_nil (rs : List Rec) : wo rs [] = rs := by unfold wo; rw [List.filter_eq_self]; intro r _; rfl
theorem wo_snoc (rs : List Rec) (L : List ByteArray) (p : ByteArray) : Sp.cut Rec.path (wo rs L) p = wo rs (L ++ [p]) := by
  unfold Sp.cut wo
  rw [List.filter_filter]
  refine List.filter_congr fun r _ => ?_
  rw [List.any_append, List.any_cons, List.any_nil, Bool.or_false, Bool.not_or, Bool.and_comm]
  congr 1
  rw [Bool.eq_iff_iff, decide_eq_true_eq, Bool.not_eq_true', decide_eq_false_iff_not]
  exact ⟨fun h e => h e.symm, fun h e => h e.symm⟩
theorem wo_rise {rs : List Rec} (h : Sp.Rising Rec.path rs) (L : List ByteArray) : Sp.Rising Rec.path (wo rs L) := List.Pairwise.filter _ h
theorem has_wo {rs : List Rec} {L : List ByteArray} {p : ByteArray} : Sto.has (wo rs L) p = true ↔ Sto.has rs p = true ∧ p ∉ L := by
  rw [has_iff, has_iff]
  constructor
  · rintro ⟨r, hr, rfl⟩; exact ⟨⟨r, (mem_wo.1 hr).1, rfl⟩, (mem_wo.1 hr).2⟩
  · rintro ⟨⟨r, hr, rfl⟩, h⟩; exact ⟨r, mem_wo.2 ⟨hr, h⟩, rfl⟩
theorem wo_len (rs : List Rec) (L : List ByteArray) : (wo rs L).length ≤ rs.length := List.length_filter_le _ _

/-- Where a sweep stands: the records left, the paths that went, the bytes. -/
structure At where
  rs : List Rec
  out : List ByteArray
  freed : Int
def next (best : Bst) (D : List ByteArray) (want : Int) (s : At) : Option At :=
  if s.freed < want then (match pick best s.rs D with
    | none => none
    | some r => some ⟨Sp.cut Rec.path s.rs r.path, s.out ++ [r.path], s.freed + r.size⟩) else none
def itN (best : Bst) (D : List ByteArray) (want : Int) (s : At) : Nat → Option At
  | 0 => some s
  | n + 1 => (itN best D want s n).bind (next best D want)
theorem itN_dead {best : Bst} {D : List ByteArray} {want : Int} {s : At} {n : Nat} (h : itN best D want s n = none) : ∀ d, itN best D want s (n + d) = none
  | 0 => h
  | d + 1 => by
    show (itN best D want s (n + d)).bind _ = none
    rw [itN_dead h d]; rfl
/-- it ends in one way only -/
theorem itN_one {best : Bst} {D : List ByteArray} {want : Int} {s a b : At} {n m : Nat} (h1 : itN best D want s n = some a) (h2 : next best D want a = none) (h3 : itN best D want s m = some b) (h4 : next best D want b = none) : a = b := by
  have key : ∀ {n m : Nat} {a b : At}, itN best D want s n = some a → next best D want a = none → itN best D want s m = some b → ¬ n < m := by
    intro n m a b h1 h2 h3 hlt
    have h5 : itN best D want s (n + 1) = none := by
      show (itN best D want s n).bind _ = none
      rw [h1]; exact h2
    have h6 := itN_dead h5 (m - (n + 1))
    rw [show n + 1 + (m - (n + 1)) = m by omega, h3] at h6
    cases h6
  have e : n = m := by
    have a1 := key h1 h2 h3
    have a2 := key h3 h4 h1
    omega
  subst e
  rw [h1] at h3
  exact Option.some.inj h3
def sizeP (rs : List Rec) (p : ByteArray) : Int := match Sp.get Rec.path rs p with
  | some r => r.size
  | none => 0
def sizes (rs : List Rec) : List ByteArray → Int
  | [] => 0
  | p :: l => sizeP rs p + sizes rs l
theorem sizes_snoc (rs : List Rec) (l : List ByteArray) (p : ByteArray) : sizes rs (l ++ [p]) = sizes rs l + sizeP rs p := by
  induction l with
  | nil => simp [sizes]
  | cons x l ih => rw [List.cons_append, sizes, sizes, ih]; omega
/-- What holds all the way. -/
structure Way (rs0 : List Rec) (D : List ByteArray) (want : Int) (s : At) : Prop where
  left : s.rs = wo rs0 s.out
  outs : ∀ k (h : k < s.out.length), s.out[k] ∈ D ∧ free (wo rs0 (s.out.take k)) s.out[k] = true
  last : ∀ o p, s.out = o ++ [p] → s.freed - sizeP rs0 p < want
  sum : s.freed = sizes rs0 s.out
theorem get_wo {rs : List Rec} (hr : Sp.Rising Rec.path rs) {L : List ByteArray} {p : ByteArray} {r : Rec} (h : Sp.get Rec.path (wo rs L) p = some r) : Sp.get Rec.path rs p = some r := by
  have h1 := Sp.get_some h
  rw [← h1.2]
  exact Sp.get_of_mem hr (mem_wo.1 h1.1).1
theorem way {best : Bst} {rs0 : List Rec} (hr : Sp.Rising Rec.path rs0) {D : List ByteArray} {want : Int} : ∀ {n : Nat} {s : At}, itN best D want ⟨rs0, [], 0⟩ n = some s → Way rs0 D want s
  | 0, s, h => by
    obtain rfl := Option.some.inj h
    exact ⟨(wo_nil rs0).symm, fun k h => absurd h (by simp), fun o p h => by simp at h, rfl⟩
  | n + 1, s', h => by
    cases hs : itN best D want ⟨rs0, [], 0⟩ n with
    | none => unfold itN at h; rw [hs] at h; cases h
    | some s =>
      have w := way hr hs
      unfold itN at h
      rw [hs] at h
      have h : next best D want s = some s' := h
      unfold next at h
      by_cases hf : s.freed < want
      · rw [if_pos hf] at h
        cases hp : pick best s.rs D with
        | none => rw [hp] at h; cases h
        | some r =>
          rw [hp] at h
          obtain rfl := Option.some.inj h
          obtain ⟨m1, m2, m3⟩ := pick_some hp
          have hsz : sizeP rs0 r.path = r.size := by
            rw [w.left] at m1
            unfold sizeP; rw [Sp.get_of_mem hr (mem_wo.1 m1).1]
          refine ⟨by show Sp.cut _ _ _ = _; rw [w.left, wo_snoc], fun k hk => ?_, fun o p e => ?_, by show s.freed + _ = _; rw [sizes_snoc, ← w.sum, hsz]⟩
          · have hk : k < (s.out ++ [r.path]).length := hk
            show (s.out ++ [r.path])[k] ∈ D ∧ free (wo rs0 ((s.out ++ [r.path]).take k)) (s.out ++ [r.path])[k] = true
            rw [List.length_append, List.length_singleton] at hk
            by_cases e : k < s.out.length
            · rw [List.getElem_append_left e, List.take_append_of_le_length (by omega)]
              exact w.outs k e
            · obtain rfl : k = s.out.length := by omega
              rw [List.getElem_append_right (by omega), List.take_left' rfl]
              simp only [Nat.sub_self, List.getElem_cons_zero]
              exact ⟨m2, by rw [← w.left]; exact m3⟩
          · have e : s.out ++ [r.path] = o ++ [p] := e
            obtain ⟨_, e2⟩ := List.append_inj' e rfl
            obtain rfl : r.path = p := by simpa using e2
            show s.freed + r.size - _ < want
            rw [hsz]; omega
      · rw [if_neg hf] at h; cases h
theorem Way.nodup {rs0 : List Rec} {D : List ByteArray} {want : Int} {s : At} (w : Way rs0 D want s) : s.out.Nodup := by
  rw [List.nodup_iff_pairwise_ne, List.pairwise_iff_getElem]
  intro i j hi hj hij e
  have h := (w.outs j hj).2
  unfold free at h
  rw [Bool.and_eq_true] at h
  exact (has_wo.1 h.1).2 (by rw [← e]; exact List.mem_take_iff_getElem.2 ⟨i, by omega, rfl⟩)
theorem Way.mem {rs0 : List Rec} {D : List ByteArray} {want : Int} {s : At} (w : Way rs0 D want s) : ∀ p ∈ s.out, p ∈ D ∧ Sto.has rs0 p = true := by
  intro p hp
  obtain ⟨k, hk, rfl⟩ := List.mem_iff_getElem.1 hp
  have h := w.outs k hk
  refine ⟨h.1, ?_⟩
  have h2 := h.2
  unfold free at h2
  rw [Bool.and_eq_true] at h2
  exact (has_wo.1 h2.1).1
/-- What is live stays, and stays live; what is left and was dead is dead. -/
theorem lives_wo {rs0 : List Rec} {roots L : List ByteArray} (hc : ∀ r ∈ rs0, ∀ q ∈ r.refs, Sto.has rs0 q = true) (hL : ∀ p ∈ L, ¬ Lives rs0 roots p) (p : ByteArray) : Lives (wo rs0 L) roots p ↔ Lives rs0 roots p := by
  constructor
  · intro h
    unfold Lives at h
    induction h with
    | root hm =>
      unfold there at hm
      rw [List.mem_filter] at hm
      exact .root (List.mem_filter.2 ⟨hm.1, (has_wo.1 hm.2).1⟩)
    | step _ hr hq ih => exact .step ih (mem_wo.1 hr).1 hq
  · intro h
    have key : ∀ p, Lives rs0 roots p → p ∉ L := fun p hp hm => hL p hm hp
    unfold Lives at h
    induction h with
    | root hm =>
      unfold there at hm
      rw [List.mem_filter] at hm
      exact .root (List.mem_filter.2 ⟨hm.1, has_wo.2 ⟨hm.2, key _ (.root (List.mem_filter.2 hm))⟩⟩)
    | step h1 hr hq ih => exact .step ih (mem_wo.2 ⟨hr, key _ h1⟩) hq
/-- Where dead paths are left, one of them is free. -/
theorem some_free {rs0 : List Rec} {roots L : List ByteArray} (ha : Acyc rs0) (hc : ∀ r ∈ rs0, ∀ q ∈ r.refs, Sto.has rs0 q = true) {r : Rec} (hr : r ∈ wo rs0 L) (hd : ¬ Lives rs0 roots r.path) : ∃ p ∈ deadL rs0 roots, free (wo rs0 L) p = true := by
  obtain ⟨rank, hrk⟩ := ha
  obtain ⟨B, hB⟩ : ∃ B, ∀ x ∈ rs0, rank x.path ≤ B := ⟨(rs0.map fun x => rank x.path).sum, fun x hx => by
    clear hrk hc hd hr
    induction rs0 with
    | nil => cases hx
    | cons y l ih =>
      rw [List.map_cons, List.sum_cons]
      rcases List.mem_cons.1 hx with rfl | hx
      · omega
      · have := ih hx; omega⟩
  have main : ∀ n (r : Rec), B - rank r.path < n → r ∈ wo rs0 L → ¬ Lives rs0 roots r.path → ∃ p ∈ deadL rs0 roots, free (wo rs0 L) p = true := by
    intro n
    induction n with
    | zero => intro r h; omega
    | succ n ih =>
      intro r hn hr hd
      by_cases he : refd (wo rs0 L) r.path = []
      · refine ⟨r.path, mem_dead.2 ⟨⟨r, (mem_wo.1 hr).1, rfl⟩, hd⟩, ?_⟩
        unfold free
        rw [Bool.and_eq_true, decide_eq_true_eq]
        exact ⟨has_iff.2 ⟨r, hr, rfl⟩, he⟩
      · obtain ⟨u, hu⟩ := List.exists_mem_of_ne_nil _ he
        unfold refd at hu
        obtain ⟨x, hx, rfl⟩ := List.mem_map.1 hu
        obtain ⟨hx1, hx2⟩ := List.mem_filter.1 hx
        unfold refers at hx2
        rw [Bool.and_eq_true, decide_eq_true_eq, List.any_eq_true] at hx2
        obtain ⟨hne, q, hq, e⟩ := hx2
        obtain rfl := of_decide_eq_true e
        have hx0 := (mem_wo.1 hx1).1
        have h1 := hrk x hx0 r.path hq (fun e => hne e.symm)
        have h2 := hB x hx0
        exact ih x (by omega) hx1 (fun hl => hd (.step hl hx0 hq))
  exact main _ r (Nat.lt_succ_self _) hr hd
/-- What ends for want of free paths leaves nothing dead. -/
theorem none_dead {best : Bst} {rs0 : List Rec} {roots : List ByteArray} {want : Int} {s : At} (hr : Sp.Rising Rec.path rs0) (ha : Acyc rs0) (hc : ∀ r ∈ rs0, ∀ q ∈ r.refs, Sto.has rs0 q = true) (w : Way rs0 (deadL rs0 roots) want s) (hp : pick best s.rs (deadL rs0 roots) = none) : deadL s.rs roots = [] ∧ ∀ p, Lives rs0 roots p ↔ ∃ r ∈ s.rs, r.path = p := by
  have hL : ∀ p ∈ s.out, ¬ Lives rs0 roots p := fun p hp => (mem_dead.1 (w.mem p hp).1).2
  have hno : ∀ r ∈ s.rs, Lives rs0 roots r.path := fun r hr1 => by
    refine Classical.byContradiction fun hd => ?_
    have hr2 := hr1
    rw [w.left] at hr2
    obtain ⟨p, h1, h2⟩ := some_free ha hc hr2 hd
    have := pick_none hp p h1
    rw [w.left, h2] at this
    cases this
  constructor
  · cases hd : deadL s.rs roots with
    | nil => rfl
    | cons p l =>
      have hm : p ∈ deadL s.rs roots := by rw [hd]; exact List.mem_cons_self
      obtain ⟨⟨r, h1, rfl⟩, h2⟩ := mem_dead.1 hm
      rw [w.left, lives_wo hc hL] at h2
      exact absurd (hno r h1) h2
  · intro p
    constructor
    · intro h
      obtain ⟨r, h1, e⟩ := has_iff.1 (lives_has hc h)
      refine ⟨r, ?_, e⟩
      rw [w.left]
      exact mem_wo.2 ⟨h1, fun hm => hL _ hm (by rw [e]; exact h)⟩
    · rintro ⟨r, h1, rfl⟩; exact hno r h1
end Go.Proofs.YtmmmghpimdfleaaGreatDoor.Swp
