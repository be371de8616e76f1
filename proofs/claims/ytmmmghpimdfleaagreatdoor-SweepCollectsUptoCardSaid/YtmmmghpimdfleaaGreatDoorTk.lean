/-
  Short words for what walks say often.
-/
import Derived.Lib.Strings
import Derived.Deep.RegionHeld
import Derived.Deep.RegionHeld3
import Derived.OwnWalk
import Derived.Below
import Derived.KernelRfl
import Derived.WalkKit
import Derived.Lib.Hide
set_option linter.unusedVariables false
namespace Go.Proofs.YtmmmghpimdfleaaGreatDoor
open Go.RowKit
theorem yH {p : Prop} (h : p) : Hid p := h
theorem yP : (∀ (α : Type) (l : List α) (i : Nat) (x : α), l.toArray.setIfInBounds i x = (l.set i x).toArray) ∧ (∀ (α : Type) (l : List α) (x y : α), (x :: l).set 0 y = y :: l) ∧ ∀ (α : Type) (l : List α) (x y : α) (n : Nat), (x :: l).set (n + 1) y = x :: l.set n y :=
  ⟨fun _ _ _ _ => by simp, fun _ _ _ _ => rfl, fun _ _ _ _ _ => rfl⟩
section
variable {P : Program} {ops : Array Oper} {Q : Exit → Act → World → Prop} {md : Region.Mode} {S : World → Prop}
theorem yT (i : Nat) {oi : Oper} {v : Value} {fuel : Nat} {listed l' : Array Bool} {a a' : Act} {w : World} (h : wpAnyH P md ops Q S fuel l' a' w) (hi : ops[i]? = some oi := by exact rfl) (hs : Region.noSelect ops = true := by kernel_rfl) (hf : Region.free md ops listed i = true := by kernel_rfl) (hr : (Region.ready md ops listed).contains i = true := by kernel_rfl) (hQ : ∀ c a w, Q (.panic c) (a.put oi.dst v) w → Q (.panic c) a w := by exact fun _ _ _ h => h) (hw : Region.wanted oi (yielded ops a.tmps) = true := by rfl) (hy : ∀ w, S w → (execOp a.eval oi).run P w = .ok (.value v) w := by intro w hSw; go_simp; try with_reducible rfl) (hS : S w := by assumption) (ha : a.put oi.dst v = a' := by simp only [Act.put, yP] <;> rfl) (hl : listed.setIfInBounds i true = l' := by (try simp only [yP]) <;> rfl) : wpAnyH P md ops Q S (fuel + 1) listed a w :=
  wpAnyH_take (i := i) (v := v) hi hs hf hr hQ (.inl ⟨hw, hy⟩) hS (by rw [ha, hl]; exact h)
theorem yR (i : Nat) {o : Oper} {fuel : Nat} {listed : Array Bool} {a : Act} {w : World} (h : ∀ K' : Act → World → Prop, Shut (∀ a w, S w → (S w → wpAnyH P md ops Q S fuel (listed.setIfInBounds i true) a w) → K' a w) → if Region.wanted o (yielded ops a.tmps) = true then Oper.wp P o a w K' Q else K' (a.put o.dst undef) w) (hr : Region.ready md ops listed = [i] := by kernel_rfl) (ho : ops[i]? = some o := by exact rfl) : wpAnyH P md ops Q S (fuel + 1) listed a w :=
  wpAnyH_ready hr (by simp) (AllReadyH.cons ho h AllReadyH.nil)
end
end Go.Proofs.YtmmmghpimdfleaaGreatDoor
