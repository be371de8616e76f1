/-
  A store has no circle of references; an order of all is therefore whole, and there is one order only.
-/
import Derived.Test.YtmmmghpimdfleaaGreatDoorGrpV
import Derived.Test.YtmmmghpimdfleaaGreatDoorStock
import Derived.Test.YtmmmghpimdfleaaGreatDoorCutT
set_option linter.unusedVariables false
set_option linter.unusedSimpArgs false
namespace Go.Proofs.YtmmmghpimdfleaaGreatDoor.St
open Mem Tr
open Go.Proofs.YtmmmghpimdfleaaGreatDoor.Hp (le)

def Acyc (rs : List Rec) : Prop := ∃ rank : ByteArray → Nat, ∀ r ∈ rs, ∀ q ∈ r.refs, q ≠ r.path → rank q < rank r.path
theorem acyc_nil : Acyc [] := ⟨fun _ => 0, fun r h => by cases h⟩
theorem Acyc.sub {rs rs' : List Rec} (h : Acyc rs) (hs : ∀ r ∈ rs', r ∈ rs) : Acyc rs' := by
  obtain ⟨rank, hr⟩ := h
  exact ⟨rank, fun r h1 => hr r (hs r h1)⟩
theorem le_sum {f : ByteArray → Nat} : ∀ {l : List ByteArray} {x : ByteArray}, x ∈ l → f x ≤ (l.map f).sum
  | [], _, h => by cases h
  | y :: l, x, h => by
    rw [List.map_cons, List.sum_cons]
    rcases List.mem_cons.1 h with rfl | h
    · omega
    · have := le_sum (f := f) h; omega
section
variable {rc st : Nat → BitVec 32}
theorem acyc_ins {rs : List Rec} (hg : Sto.Good rc st rs) (h : Acyc rs) (r : Rec) : Acyc (Sto.insS rc st rs r) := by
  unfold Sto.insS
  split
  · rename_i he
    split
    · exact h
    · rename_i hn
      obtain ⟨rank, hr⟩ := h
      have hnp := Sp.get_none hn
      have hhas : ∀ q, Sto.has rs q = true → q ≠ r.path := fun q hq e => by
        subst e; unfold Sto.has at hq; rw [hn] at hq; cases hq
      refine ⟨fun x => if x = r.path then 1 + (r.refs.map rank).sum else rank x, fun x hx q hq hne => ?_⟩
      show (if q = r.path then _ else rank q) < if x.path = r.path then 1 + (r.refs.map rank).sum else rank x.path
      rcases Sp.mem_put.1 hx with rfl | hx
      · rw [if_neg hne, if_pos rfl]
        have := le_sum (f := rank) hq
        omega
      · rw [if_neg (hhas q (hg.closed x hx q hq)), if_neg (hnp x hx)]
        exact hr x hx q hq hne
  · exact h
theorem acyc_stock (l : List Rec) : ∀ rs : List Rec, Sto.Good rc st rs → Acyc rs → (∀ r ∈ l, r.bulk ≤ 4194304) → Acyc (stockF rc st rs l) := by
  induction l with
  | nil => intro rs _ h _; exact h
  | cons r l ih =>
    intro rs hg h hb
    exact ih _ (Sto.good_ins hg (hb r List.mem_cons_self)) (acyc_ins hg h r) fun x hx => hb x (List.mem_cons_of_mem _ hx)
theorem acyc (l : List Rec) (hb : Op.bulkR l ≤ 4194304) : Acyc (stockF rc st [] l) :=
  acyc_stock l [] (Sto.good_nil rc st) acyc_nil fun r h => by have := bulkR_mem h; omega
end
theorem mem_take_lt {l : List ByteArray} {k : Nat} {x : ByteArray} (h : x ∈ l.take k) : ∃ j, ∃ hj : j < l.length, j < k ∧ l[j] = x := by
  obtain ⟨j, hj, e⟩ := List.mem_iff_getElem.1 h
  rw [List.length_take] at hj
  rw [List.getElem_take] at e
  exact ⟨j, by omega, by omega, e⟩
theorem OrdSub.nodup {gs : Got} {out : List ByteArray} (h : OrdSub gs out) : out.Nodup := by
  rw [List.nodup_iff_pairwise_ne, List.pairwise_iff_getElem]
  intro i j hi hj hij e
  exact (h j hj).1.2.1 (by rw [← e]; exact List.mem_take_iff_getElem.2 ⟨i, by omega, rfl⟩)
/-- what is a record of rs under this path refers to -/
theorem refsOf_rec {rs : List Rec} {gs : Got} (hgs : ∀ x ∈ gs, x.1 ∈ rs) (hnd : (paths gs).Nodup) {p : ByteArray} (hp : p ∈ paths gs) : ∃ r ∈ rs, r.path = p ∧ refsOf gs p = r.refs := by
  unfold paths at hp
  obtain ⟨x, hx, rfl⟩ := List.mem_map.1 hp
  exact ⟨x.1, hgs x hx, rfl, refsOf_mem hnd hx⟩
theorem ord_all {rs : List Rec} {roots : List ByteArray} {gs : Got} {out : List ByteArray} (ha : Acyc rs) (hgs : ∀ x ∈ gs, x.1 ∈ rs) (hnd : (paths gs).Nodup) (hp : ∀ p, p ∈ paths gs ↔ Rch rs roots p) (ho : OrdSpec gs out) : ∀ p, p ∈ out ↔ Rch rs roots p := by
  obtain ⟨rank, hr⟩ := ha
  have main : ∀ n p, rank p < n → p ∈ paths gs → p ∈ out := by
    intro n
    induction n with
    | zero => intro p h; omega
    | succ n ih =>
      intro p hn hpp
      refine Classical.byContradiction fun hno => ho.2 p ⟨hpp, hno, fun q hq => ?_⟩
      obtain ⟨r, hrm, e1, e2⟩ := refsOf_rec hgs hnd hpp
      unfold deps at hq
      rw [List.mem_filter, e2, decide_eq_true_eq] at hq
      have h1 := hr r hrm q hq.1 (by rw [e1]; exact hq.2)
      rw [e1] at h1
      refine ih q (by omega) ((hp q).2 ?_)
      exact .step (by rw [e1]; exact (hp p).1 hpp) hrm hq.1
  intro p
  rw [← hp]
  exact ⟨fun h => ho.1.sub p h, main (rank p + 1) p (by omega)⟩
theorem le_antisymm {a b : ByteArray} (h : le a b) (k : le b a) : a = b := Sp.lt_tri k h
theorem ready_same {rs : List Rec} (hr : Sp.Rising Rec.path rs) {gs gs' : Got} (hgs : ∀ x ∈ gs, x.1 ∈ rs) (hnd : (paths gs).Nodup) (hgs' : ∀ x ∈ gs', x.1 ∈ rs) (hnd' : (paths gs').Nodup) (hs : ∀ p, p ∈ paths gs → p ∈ paths gs') {out : List ByteArray} {u : ByteArray} (h : ready gs out u) : ready gs' out u := by
  obtain ⟨h1, h2, h3⟩ := h
  refine ⟨hs u h1, h2, fun q hq => h3 q ?_⟩
  obtain ⟨r, m1, e1, e2⟩ := refsOf_rec hgs hnd h1
  obtain ⟨r', m1', e1', e2'⟩ := refsOf_rec hgs' hnd' (hs u h1)
  have e : r = r' := by
    have a := Sp.get_of_mem hr m1
    have b := Sp.get_of_mem hr m1'
    rw [e1] at a; rw [e1', a] at b
    exact Option.some.inj b
  unfold deps at hq ⊢
  rw [e2, e]; rw [e2'] at hq; exact hq
/-- there is one order only -/
theorem ord_one {rs : List Rec} (hr : Sp.Rising Rec.path rs) {gs gs' : Got} (hgs : ∀ x ∈ gs, x.1 ∈ rs) (hnd : (paths gs).Nodup) (hgs' : ∀ x ∈ gs', x.1 ∈ rs) (hnd' : (paths gs').Nodup) (hs : ∀ p, p ∈ paths gs ↔ p ∈ paths gs') {out out' : List ByteArray} (h : OrdSpec gs out) (h' : OrdSpec gs' out') : out = out' := by
  have r1 : ∀ {o : List ByteArray} {u : ByteArray}, ready gs o u → ready gs' o u := fun {o u} x => ready_same hr hgs hnd hgs' hnd' (fun p hp => (hs p).1 hp) x
  have r2 : ∀ {o : List ByteArray} {u : ByteArray}, ready gs' o u → ready gs o u := fun {o u} x => ready_same hr hgs' hnd' hgs hnd (fun p hp => (hs p).2 hp) x
  have main : ∀ k, out.take k = out'.take k := by
    intro k
    induction k with
    | zero => rfl
    | succ k ih =>
      by_cases a : k < out.length
      · have h1 := h.1 k a
        by_cases b : k < out'.length
        · have h2 := h'.1 k b
          have e : out[k] = out'[k] := le_antisymm (h1.2 _ (by rw [ih]; exact r2 h2.1)) (h2.2 _ (by rw [← ih]; exact r1 h1.1))
          rw [List.take_succ_eq_append_getElem a, List.take_succ_eq_append_getElem b, ih, e]
        · have h3 := r1 h1.1
          rw [ih, List.take_of_length_le (by omega)] at h3
          exact absurd h3 (h'.2 _)
      · by_cases b : k < out'.length
        · have h2 := h'.1 k b
          have h3 := r2 h2.1
          rw [← ih, List.take_of_length_le (by omega)] at h3
          exact absurd h3 (h.2 _)
        · rw [List.take_of_length_le (by omega), List.take_of_length_le (by omega)]
          rw [List.take_of_length_le (by omega), List.take_of_length_le (by omega)] at ih
          exact ih
  have := main (out.length + out'.length)
  rw [List.take_of_length_le (by omega), List.take_of_length_le (by omega)] at this
  exact this
/-- the records whose paths are among these -/
def only (rs : List Rec) (L : List ByteArray) : List Rec := rs.filter fun r => L.any fun x => decide (x = r.path)
theorem mem_only {rs : List Rec} {L : List ByteArray} {r : Rec} : r ∈ only rs L ↔ r ∈ rs ∧ r.path ∈ L := by
  unfold only
  rw [List.mem_filter, List.any_eq_true]
  constructor
  · rintro ⟨h, x, hx, e⟩
    rw [of_decide_eq_true e] at hx; exact ⟨h, hx⟩
  · rintro ⟨h, hx⟩; exact ⟨h, _, hx, decide_eq_true rfl⟩
theorem only_all {rs : List Rec} {L : List ByteArray} (h : ∀ r ∈ rs, r.path ∈ L) : only rs L = rs := by
  unfold only
  rw [List.filter_eq_self]
  intro r hr
  rw [List.any_eq_true]
  exact ⟨_, h r hr, decide_eq_true rfl⟩
theorem only_nil (rs : List Rec) : only rs [] = [] := by
  unfold only; rw [List.filter_eq_nil_iff]; intro r _; simp
theorem only_rise {rs : List Rec} (h : Sp.Rising Rec.path rs) (L : List ByteArray) : Sp.Rising Rec.path (only rs L) := List.Pairwise.filter _ h
theorem cut_only (rs : List Rec) (L L' : List ByteArray) (p : ByteArray) (h : ∀ x, x ∈ L' ↔ x ∈ L ∧ x ≠ p) : Sp.cut Rec.path (only rs L) p = only rs L' := by
  unfold Sp.cut only
  rw [List.filter_filter]
  refine List.filter_congr fun r _ => ?_
  rw [Bool.eq_iff_iff, Bool.and_eq_true, List.any_eq_true, List.any_eq_true, decide_eq_true_eq]
  constructor
  · rintro ⟨h1, x, hx, e⟩
    have e := of_decide_eq_true e
    subst e
    exact ⟨_, (h _).2 ⟨hx, h1⟩, decide_eq_true rfl⟩
  · rintro ⟨x, hx, e⟩
    have e := of_decide_eq_true e
    subst e
    have := (h _).1 hx
    exact ⟨this.2, _, this.1, decide_eq_true rfl⟩
theorem has_only {rs : List Rec} {L : List ByteArray} {p : ByteArray} (hp : ∃ r ∈ rs, r.path = p) : Sto.has (only rs L) p = true ↔ p ∈ L := by
  unfold Sto.has Sp.get
  rw [List.find?_isSome]
  constructor
  · rintro ⟨x, hx, e⟩
    rw [← of_decide_eq_true e]; exact (mem_only.1 hx).2
  · intro h
    obtain ⟨r, hr, e⟩ := hp
    exact ⟨r, mem_only.2 ⟨hr, by rw [e]; exact h⟩, decide_eq_true e⟩
/-- the last of an order can be cut, once -/
theorem cut_last {rs : List Rec} {gs : Got} {out : List ByteArray} (hgs : ∀ x ∈ gs, x.1 ∈ rs) (hnd : (paths gs).Nodup) (hr : Sp.Rising Rec.path rs) (h : OrdSub gs out) (k : Nat) (hk : k < out.length) :
    cutE (only rs (out.take (k + 1))) out[k] = 0 ∧ cutS (only rs (out.take (k + 1))) out[k] = only rs (out.take k) ∧ cutE (only rs (out.take k)) out[k] = 3 ∧ cutS (only rs (out.take k)) out[k] = only rs (out.take k) := by
  have hn := h.nodup
  have hno : out[k] ∉ out.take k := (h k hk).1.2.1
  have hrec : ∀ j (hj : j < out.length), ∃ r ∈ rs, r.path = out[j] ∧ refsOf gs out[j] = r.refs := fun j hj => refsOf_rec hgs hnd (h j hj).1.1
  have hex : ∃ r ∈ rs, r.path = out[k] := by obtain ⟨r, h1, h2, _⟩ := hrec k hk; exact ⟨r, h1, h2⟩
  have hhas : Sto.has (only rs (out.take (k + 1))) out[k] = true := (has_only hex).2 (by rw [List.take_succ_eq_append_getElem hk]; exact List.mem_append_right _ (List.mem_singleton.2 rfl))
  have hrefd : refd (only rs (out.take (k + 1))) out[k] = [] := by
    unfold refd
    rw [List.map_eq_nil_iff, List.filter_eq_nil_iff]
    intro r hr1
    obtain ⟨m1, m2⟩ := mem_only.1 hr1
    unfold refers
    rw [Bool.and_eq_true, decide_eq_true_eq, List.any_eq_true]
    rintro ⟨hne, q, hq, e⟩
    obtain rfl := of_decide_eq_true e
    obtain ⟨j, hj, hjk, ej⟩ := mem_take_lt m2
    have hjk2 : j < k := by
      rcases Nat.lt_or_ge j k with h1 | h1
      · exact h1
      · obtain rfl : j = k := by omega
        exact absurd ej.symm hne
    obtain ⟨r', n1, n2, n3⟩ := hrec j hj
    have er : r' = r := by
      have a := Sp.get_of_mem hr n1
      have b := Sp.get_of_mem hr m1
      rw [n2, ej, b] at a
      exact (Option.some.inj a).symm
    subst er
    have h1 := (h j hj).1.2.2 out[k] (by
      unfold deps
      rw [List.mem_filter, n3, decide_eq_true_eq]
      exact ⟨hq, by rw [← n2]; exact fun e => hne e.symm⟩)
    obtain ⟨i, hi, hij, ei⟩ := mem_take_lt h1
    exact hno (List.mem_take_iff_getElem.2 ⟨i, by omega, ei⟩)
  have e1 : cutE (only rs (out.take (k + 1))) out[k] = 0 := by unfold cutE; rw [if_pos hhas, if_pos hrefd]
  have hf : ¬ Sto.has (only rs (out.take k)) out[k] = true := fun e => hno ((has_only hex).1 e)
  have e3 : cutE (only rs (out.take k)) out[k] = 3 := by unfold cutE; rw [if_neg hf]
  refine ⟨e1, ?_, e3, ?_⟩
  · unfold cutS
    rw [if_pos e1]
    refine cut_only _ _ _ _ fun x => ?_
    rw [List.take_succ_eq_append_getElem hk, List.mem_append, List.mem_singleton]
    constructor
    · intro hx; exact ⟨.inl hx, fun e => hno (e ▸ hx)⟩
    · rintro ⟨h1 | h1, h2⟩
      · exact h1
      · exact absurd h1 h2
  · unfold cutS; rw [if_neg (by rw [e3]; decide)]
theorem toList_eq {a b : ByteArray} (h : a.toList = b.toList) : a = b := by
  refine Sp.lt_tri ?_ ?_
  · unfold Sp.lt; rw [h]; exact Sp.lt_irrefl b
  · unfold Sp.lt; rw [h]; exact Sp.lt_irrefl b
theorem refs_step {l : List ByteArray} (h : Pre.refsE l = 0) (j : Nat) (hj : j + 1 < l.length) : Sp.lt l[j] l[j + 1] = true := by
  unfold Pre.refsE at h
  by_cases h1 : 1024 < l.length
  · rw [if_pos h1] at h; cases h
  · rw [if_neg h1] at h
    by_cases h2 : Pre.refsOk l = true
    · have h3 := List.all_eq_true.mp h2 (j + 1) (List.mem_range.mpr hj)
      simp only [Pre.refBad, Pre.behindAt, List.getElem?_eq_getElem hj, List.getElem?_eq_getElem (show j < l.length by omega), Bool.not_eq_true', Bool.or_eq_false_iff] at h3
      obtain ⟨_, h4, h5⟩ := h3
      cases hl : Sp.lt l[j] l[j + 1]
      · have e : l[j + 1] = l[j] := Sp.lt_tri h4 hl
        rw [e] at h5
        simp at h5
      · rfl
    · rw [if_neg h2] at h; cases h
theorem refs_lt {l : List ByteArray} (h : Pre.refsE l = 0) (i : Nat) : ∀ d (hd : i + d + 1 < l.length), Sp.lt l[i] l[i + d + 1] = true
  | 0, hd => refs_step h i hd
  | d + 1, hd => Sp.lt_trans (refs_lt h i d (by omega)) (refs_step h (i + d + 1) hd)
theorem refs_nodup {l : List ByteArray} (h : Pre.refsE l = 0) : l.Nodup := by
  rw [List.nodup_iff_pairwise_ne, List.pairwise_iff_getElem]
  intro i j hi hj hij
  obtain ⟨d, rfl⟩ : ∃ d, j = i + d + 1 := ⟨j - i - 1, by omega⟩
  exact Sp.lt_ne (refs_lt h i d hj)
open Classical in
/-- of the first n references of r those that name p, each as r's own path -/
noncomputable def hits (p : ByteArray) (r : Rec) (n : Nat) : List ByteArray := if r.path ≠ p ∧ p ∈ r.refs.take n then [r.path] else []
theorem hits_zero (p : ByteArray) (r : Rec) : hits p r 0 = [] := by unfold hits; simp
theorem hits_end (p : ByteArray) (r : Rec) (rs : List Rec) : refd rs p ++ hits p r r.refs.length = refd (rs ++ [r]) p := by
  rw [refd_snoc]
  congr 1
  unfold hits refers
  rw [List.take_length]
  by_cases h1 : r.path = p
  · simp [h1]
  · by_cases h2 : p ∈ r.refs
    · rw [if_pos ⟨h1, h2⟩, if_pos]
      rw [Bool.and_eq_true, decide_eq_true_eq, List.any_eq_true]
      exact ⟨h1, p, h2, decide_eq_true rfl⟩
    · rw [if_neg (fun h => h2 h.2), if_neg]
      rw [Bool.and_eq_true, List.any_eq_true]
      rintro ⟨_, q, hq, e⟩
      exact h2 (by rw [← of_decide_eq_true e]; exact hq)
theorem hits_next {p : ByteArray} {r : Rec} (hn : r.refs.Nodup) (n : Nat) (h : n < r.refs.length) : hits p r (n + 1) = if r.refs[n] = p ∧ r.path ≠ p then hits p r n ++ [r.path] else hits p r n := by
  unfold hits
  rw [List.take_succ_eq_append_getElem h]
  by_cases h1 : r.path = p
  · simp [h1]
  · by_cases h2 : r.refs[n] = p
    · have h3 : p ∉ r.refs.take n := fun hp => by
        obtain ⟨j, hj, hjn, e⟩ := mem_take_lt hp
        rw [List.nodup_iff_pairwise_ne, List.pairwise_iff_getElem] at hn
        exact hn j n hj h hjn (by rw [e, h2])
      rw [if_pos ⟨h1, by rw [h2]; simp⟩, if_pos ⟨h2, h1⟩, if_neg (fun h => h3 h.2)]; rfl
    · rw [if_neg (c := r.refs[n] = p ∧ r.path ≠ p) (fun h => h2 h.1)]
      have : (p ∈ r.refs.take n ++ [r.refs[n]]) ↔ p ∈ r.refs.take n := by
        rw [List.mem_append, List.mem_singleton]
        exact ⟨fun h => h.resolve_right (fun e => h2 e.symm), .inl⟩
      by_cases h3 : p ∈ r.refs.take n
      · rw [if_pos ⟨h1, this.2 h3⟩, if_pos ⟨h1, h3⟩]
      · rw [if_neg (fun h => h3 (this.1 h.2)), if_neg (fun h => h3 h.2)]
end Go.Proofs.YtmmmghpimdfleaaGreatDoor.St
