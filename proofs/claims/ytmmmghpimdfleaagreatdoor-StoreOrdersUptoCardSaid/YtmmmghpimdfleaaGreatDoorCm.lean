/-
  A map from texts to counts, as a function.
-/
import Derived.Test.YtmmmghpimdfleaaGreatDoorSetM
set_option linter.unusedVariables false
set_option linter.unusedSimpArgs false
namespace Go.Proofs.YtmmmghpimdfleaaGreatDoor.Swp
open Go.RowKit Mem
open Go.Proofs.YtmmmghpimdfleaaGreatDoor.Mp (Mp Fv)

/-- A map of counts. -/
def Cm (w : World) (b n : Nat) (cnt : ByteArray → Int) : Prop := ∃ f, Mp w b n f ∧ ∀ u, (f u).getD (.int .i64 0) = .int .i64 (cnt u)
theorem Cm.lt {w : World} {b n : Nat} {cnt : ByteArray → Int} (h : Cm w b n cnt) : b < w.heap.size := by obtain ⟨f, h, _⟩ := h; exact h.lt
theorem Cm.below {w w' : World} {b n : Nat} {cnt : ByteArray → Int} (h : Cm w b n cnt) (hb : Below w.heap.size w w') : Cm w' b n cnt := by
  obtain ⟨f, h1, h2⟩ := h; exact ⟨f, h1.below hb, h2⟩
theorem Cm.kp {M : Nat → Prop} {w w' : World} {b n : Nat} {cnt : ByteArray → Int} (h : Cm w b n cnt) (hk : Kp M w w') (hM : ¬ M b) : Cm w' b n cnt := by
  obtain ⟨f, h1, h2⟩ := h; exact ⟨f, h1.kp hk hM, h2⟩
theorem Cm.made (w : World) : Cm (w.alloc (.map #[] 0)) w.heap.size 0 (fun _ => 0) := ⟨_, Mp.made w, fun u => rfl⟩
theorem Cm.look {w : World} {b n : Nat} {cnt : ByteArray → Int} (h : Cm w b n cnt) {k : ByteArray} (hk : k.size ≤ maxLen) : (Instr.lookup 67 (.map (some b)) (.string k) false).run Tryz.prog w = .ok (.int .i64 (cnt k)) w := by
  obtain ⟨f, h1, h2⟩ := h
  rw [h1.look (t := 67) (e := 3) Tryz.underlying67 (z := .int .i64 0) (by kernel_rfl) hk, h2]
theorem Cm.store {w : World} {b n : Nat} {cnt : ByteArray → Int} (h : Cm w b n cnt) (hn : n < maxLen) {k : ByteArray} (hk : k.size ≤ maxLen) (c : Int) :
    ∃ w', (Instr.mapUpdate 67 (.map (some b)) (.string k) (.int .i64 c)).run Tryz.prog w = .ok () w' ∧ Cm w' b (n + 1) (fun u => if u = k then c else cnt u) ∧ w.grownBy w' (some b) ∧ w'.heap.size = w.heap.size := by
  obtain ⟨f, h1, h2⟩ := h
  obtain ⟨w', hrun, h3, h4, h5⟩ := h1.store (t := 67) Tryz.underlying67 hn hk (.int .i64 c)
  refine ⟨w', hrun, ⟨_, h3, fun u => ?_⟩, h4, h5⟩
  show (if u = k then some (Value.int .i64 c) else f u).getD (.int .i64 0) = .int .i64 (if u = k then c else cnt u)
  by_cases e : u = k
  · rw [if_pos e, if_pos e]; rfl
  · rw [if_neg e, if_neg e]; exact h2 u
end Go.Proofs.YtmmmghpimdfleaaGreatDoor.Swp
