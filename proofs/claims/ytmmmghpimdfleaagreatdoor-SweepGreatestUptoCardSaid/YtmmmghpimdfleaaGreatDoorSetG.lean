/-
  A map of the call's own from texts to numbers that a function tells; how many keys it has.
-/
import Derived.Test.YtmmmghpimdfleaaGreatDoorGrpZ
set_option linter.unusedVariables false
set_option linter.unusedSimpArgs false
namespace Go.Proofs.YtmmmghpimdfleaaGreatDoor.Mp
open Go.RowKit Mem

def gF (g : ByteArray → Int) (L : List ByteArray) : Fv := fun k => if hasL L k = true then some (.int .i64 (g k)) else none
def InG (g : ByteArray → Int) (w : World) (b : Nat) (L : List ByteArray) : Prop := ∃ D, w.ownsMap Tryz.prog 9 heldR b L.length D ∧ View D (gF g L) ∧ L.Nodup ∧ Maps.size D = L.length
theorem tightG {w : World} {b n : Nat} {D : DataW Value} (h : w.ownsMap Tryz.prog 9 heldR b n D) : w.ownsMap Tryz.prog 9 heldR b (Maps.size D) D := by
  obtain ⟨es, clock, h0, hf, hs, rfl⟩ := h
  exact ⟨es, clock, h0, hf, by simp [Maps.size, Go.length_sorted], rfl⟩
theorem InG.made (g : ByteArray → Int) (w : World) : InG g (w.alloc (.map #[] 0)) w.heap.size [] := ⟨_, World.ownsMap_made w _ _ _, fun k => ⟨rfl, fun v h => by cases h⟩, List.nodup_nil, rfl⟩
theorem InG.nodup {g : ByteArray → Int} {w : World} {b : Nat} {L : List ByteArray} (h : InG g w b L) : L.Nodup := by obtain ⟨D, _, _, h3, _⟩ := h; exact h3
theorem InG.lt {g : ByteArray → Int} {w : World} {b : Nat} {L : List ByteArray} (h : InG g w b L) : b < w.heap.size := by obtain ⟨D, h1, _⟩ := h; exact h1.lt
theorem InG.block {g : ByteArray → Int} {w w' : World} {b : Nat} {L : List ByteArray} (h : InG g w b L) (hb : w'.heap[b]? = w.heap[b]?) : InG g w' b L := by
  obtain ⟨D, ⟨es, clock, h0, r⟩, h2⟩ := h
  exact ⟨D, ⟨es, clock, hb.trans h0, r⟩, h2⟩
theorem InG.below {g : ByteArray → Int} {w w' : World} {b : Nat} {L : List ByteArray} (h : InG g w b L) (hb : Below w.heap.size w w') : InG g w' b L := h.block (hb.block b h.lt)
theorem InG.mp {g : ByteArray → Int} {w : World} {b : Nat} {L : List ByteArray} (h : InG g w b L) : Mp w b L.length (gF g L) := by
  obtain ⟨D, h1, h2, _, _⟩ := h
  exact ⟨D, h1, h2⟩
theorem zeroG (w : World) : (zeroValue 3).run Tryz.prog w = .ok (.int .i64 0) w := by kernel_rfl
theorem InG.look {g : ByteArray → Int} {w : World} {b : Nat} {L : List ByteArray} (h : InG g w b L) {k : ByteArray} (hk : k.size ≤ maxLen) :
    (Instr.lookup 67 (.map (some b)) (.string k) false).run Tryz.prog w = .ok (.int .i64 (if hasL L k = true then g k else 0)) w := by
  have := h.mp.look (t := 67) (e := 3) Tryz.underlying67 (zeroG w) hk
  rw [this]
  unfold gF
  split <;> rfl
theorem InG.store {g : ByteArray → Int} {w : World} {b : Nat} {L : List ByteArray} (h : InG g w b L) (hn : L.length < maxLen) {k : ByteArray} (hk : k.size ≤ maxLen) :
    ∃ w', (Instr.mapUpdate 67 (.map (some b)) (.string k) (.int .i64 (g k))).run Tryz.prog w = .ok () w' ∧ InG g w' b (add L k) ∧ w.grownBy w' (some b) ∧ w'.heap.size = w.heap.size := by
  obtain ⟨D, h1, h2, h5, h6⟩ := h
  obtain ⟨w', hrun, h3, h4⟩ := h1.store keyedS Tryz.underlying67 hn (keyS hk) (d := .held (.int .i64 (g k))) (ps := []) (val := .int .i64 (g k)) rfl
  have hsz : Maps.size (D.put (lk k) (.held (.int .i64 (g k)))) = (add L k).length := by
    rw [Maps.size_put (h1.tidy keyedS), (h2 k).1]
    unfold add gF
    by_cases e : hasL L k = true
    · simp [e, h6]
    · simp [e, h6]
  refine ⟨w', hrun, ⟨_, by have := tightG h3; rw [hsz] at this; exact this, fun k' => ?_, nodup_add h5 k, hsz⟩, h4.grown, ?_⟩
  · have him := h1.isMap
    by_cases e : k' = k
    · subst e
      have hin : hasL (add L k') k' = true := hasL_iff.2 (mem_add.2 (.inr rfl))
      refine ⟨?_, fun u hu z => ?_⟩
      · rw [Maps.has_put_same him (isLit _)]; simp [gF, hin]
      · simp only [gF, if_pos hin] at hu
        obtain rfl := Option.some.inj hu
        exact Maps.atKey_put_same him (isLit _) _ _
    · have hne : lk k' ≠ lk k := fun h => e (lk_inj h)
      have hii : hasL (add L k) k' = hasL L k' := by rw [Bool.eq_iff_iff, hasL_iff, hasL_iff, mem_add]; simp [e]
      refine ⟨?_, fun u hu z => ?_⟩
      · rw [Maps.has_put_other hne, (h2 k').1]; simp [gF, hii]
      · have hu' : gF g L k' = some u := by rw [← hu]; simp [gF, hii]
        rw [Maps.atKey_put_other hne]
        exact (h2 k').2 u hu' z
  · obtain ⟨es, clock, es', clock', _, rfl⟩ := h4
    simp [ChangeMaps.setBlock]
/-- 'len(m)' -/
theorem wpList_len_g {g : ByteArray → Int} {w : World} {ops : Array Oper} {rest : List Oper} {o : Oper} {a : Act} {Q : Exit → Act → World → Prop} (hg : o.guard = none) (m : Operand) (hop : o.op = Op.call { callee := Callee.builtin Builtin.len, args := #[m], argTypes := #[67] })
    (b : Nat) (L : List ByteArray) (hm : a.eval m = .map (some b)) (h : InG g w b L) (hK : wpList Tryz.prog ops Q rest (a.put o.dst (.int .i64 L.length)) w) :
    wpList Tryz.prog ops Q (o :: rest) a w := by
  obtain ⟨D, h1, h2, h5, h6⟩ := h
  refine Go.wpList_len_own w hg m _ hop 9 3 Tryz.underlying67 _ b _ D hm h1 ?_
  rw [h6]
  exact hK
end Go.Proofs.YtmmmghpimdfleaaGreatDoor.Mp
