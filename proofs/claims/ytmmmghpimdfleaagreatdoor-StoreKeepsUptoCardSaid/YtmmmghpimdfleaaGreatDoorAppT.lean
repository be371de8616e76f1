/-
  append of texts to texts of the call's own.
-/
import Derived.Test.YtmmmghpimdfleaaGreatDoorAppS
set_option linter.unusedVariables false
set_option linter.unusedSimpArgs false
namespace Go.Proofs.YtmmmghpimdfleaaGreatDoor.AppT
open Go.RowKit Mem Tr St
open Go.WideShapes (add_plain)
/-- 'append(own, given...)' -/
theorem app_texts {w : World} {B n : Nat} {v : Value} {xs : List Value} {S : Nat → Prop} {rv : Value} {l : List ByteArray} (hown : w.ownsRow B 9 1 v n xs) (hr : Strs S w rv l) (hcap : ∀ n cap, rv = .slice none n cap → cap = 0) (hn : n + l.length ≤ 4194304) (hB : B ≤ w.heap.size) :
    ∃ v' w', (Builtin.append_ #[27, 27] 27 #[v, rv]).run Tryz.prog w = .ok v' w' ∧ w'.ownsRow B 9 1 v' (n + l.length) (xs ++ l.map .string) ∧ w.grownBy w' v.ownBlock := by
  obtain ⟨i0, hi, hz0, hz1, hz2⟩ := info_parts Make.infoStr
  obtain ⟨ao, cap, rfl, hl, hm, hk⟩ := hr
  cases ao with
  | none =>
    obtain rfl := hcap _ _ rfl
    obtain rfl : l = [] := List.eq_nil_of_length_eq_zero (by omega)
    refine ⟨v, w, run_append_owned_none (P := Tryz.prog) w B _ _ 9 i0 1 Tryz.underlying27 hi v n xs hown, by simpa using hown, ⟨rfl, rfl, rfl, Nat.le_refl _, fun _ _ _ => rfl⟩⟩
  | some ad =>
    have hnews : ∀ j u, (l.map Value.string)[j]? = some u → w.cell? (ad.add j) = some u := by
      intro j u hj
      have hjl : j < l.length := by have := (List.getElem?_eq_some_iff.1 hj).1; simpa using this
      rcases hk with rfl | ⟨b, o, e1, e2, e3⟩
      · simp at hjl
      · cases e1
        rw [add_plain, e3 j hjl]
        rw [List.getElem?_map, List.getElem?_eq_getElem hjl] at hj
        exact hj
    obtain ⟨v', w', h1, h2, h3, _, _⟩ := run_append_own_at (P := Tryz.prog) w B 27 27 9 i0 (.string ⟨#[]⟩) 1 16 Tryz.underlying27 hi hz0 hz1 hz2 rfl (by decide) v n xs hown ad l.length cap (l.map .string) (by simp) hnews (by intro u hu; obtain ⟨x, _, rfl⟩ := List.mem_map.1 hu; rfl) (by unfold maxLen; omega) (by omega) hB
    exact ⟨v', w', h1, h2, h3⟩
end Go.Proofs.YtmmmghpimdfleaaGreatDoor.AppT
