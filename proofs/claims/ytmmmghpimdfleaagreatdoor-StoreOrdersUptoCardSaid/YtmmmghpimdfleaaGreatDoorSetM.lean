/-
  A map of the call's own that keeps a set of texts: every key that is there holds 1.
-/
import Derived.Test.YtmmmghpimdfleaaGreatDoorGrpT
import Derived.Maps.Views
set_option linter.unusedVariables false
set_option linter.unusedSimpArgs false
namespace Go.Proofs.YtmmmghpimdfleaaGreatDoor.Mp
open Go.RowKit Mem

def hasL (L : List ByteArray) (k : ByteArray) : Bool := L.any fun x => decide (x = k)
theorem hasL_iff {L : List ByteArray} {k : ByteArray} : hasL L k = true ↔ k ∈ L := by
  unfold hasL
  rw [List.any_eq_true]
  constructor
  · rintro ⟨x, hx, e⟩
    rw [of_decide_eq_true e] at hx; exact hx
  · intro h; exact ⟨k, h, decide_eq_true rfl⟩
def oneF (L : List ByteArray) : Fv := fun k => if hasL L k = true then some (.int .i64 1) else none
def add (L : List ByteArray) (k : ByteArray) : List ByteArray := if hasL L k = true then L else L ++ [k]
def In (w : World) (b : Nat) (L : List ByteArray) : Prop := ∃ D, w.ownsMap Tryz.prog 9 heldR b L.length D ∧ View D (oneF L) ∧ L.Nodup ∧ Maps.size D = L.length
theorem mem_add {L : List ByteArray} {k x : ByteArray} : x ∈ add L k ↔ x ∈ L ∨ x = k := by
  unfold add
  split
  · rename_i h
    constructor
    · exact .inl
    · rintro (h1 | rfl)
      · exact h1
      · exact hasL_iff.1 h
  · simp
theorem nodup_add {L : List ByteArray} (h : L.Nodup) (k : ByteArray) : (add L k).Nodup := by
  unfold add
  split
  · exact h
  · rename_i hn
    rw [List.nodup_append]
    exact ⟨h, by simp, fun a ha b hb => by simp at hb; subst hb; exact fun e => hn (hasL_iff.2 (e ▸ ha))⟩
theorem length_add (L : List ByteArray) (k : ByteArray) : (add L k).length ≤ L.length + 1 := by
  unfold add; split <;> simp
theorem tight {w : World} {b n : Nat} {D : DataW Value} (h : w.ownsMap Tryz.prog 9 heldR b n D) : w.ownsMap Tryz.prog 9 heldR b (Maps.size D) D := by
  obtain ⟨es, clock, h0, hf, hs, rfl⟩ := h
  exact ⟨es, clock, h0, hf, by simp [Maps.size, Go.length_sorted], rfl⟩
theorem In.made (w : World) : In (w.alloc (.map #[] 0)) w.heap.size [] := ⟨_, World.ownsMap_made w _ _ _, fun k => ⟨rfl, fun v h => by cases h⟩, List.nodup_nil, rfl⟩
theorem In.nodup {w : World} {b : Nat} {L : List ByteArray} (h : In w b L) : L.Nodup := by obtain ⟨D, _, _, h3, _⟩ := h; exact h3
theorem In.lt {w : World} {b : Nat} {L : List ByteArray} (h : In w b L) : b < w.heap.size := by obtain ⟨D, h1, _⟩ := h; exact h1.lt
theorem In.block {w w' : World} {b : Nat} {L : List ByteArray} (h : In w b L) (hb : w'.heap[b]? = w.heap[b]?) : In w' b L := by
  obtain ⟨D, ⟨es, clock, h0, r⟩, h2⟩ := h
  exact ⟨D, ⟨es, clock, hb.trans h0, r⟩, h2⟩
theorem In.below {w w' : World} {b : Nat} {L : List ByteArray} (h : In w b L) (hb : Below w.heap.size w w') : In w' b L := h.block (hb.block b h.lt)
theorem In.mp {w : World} {b : Nat} {L : List ByteArray} (h : In w b L) : Mp w b L.length (oneF L) := by
  obtain ⟨D, h1, h2, _, _⟩ := h
  exact ⟨D, h1, h2⟩
theorem zeroI (w : World) : (zeroValue 3).run Tryz.prog w = .ok (.int .i64 0) w := by kernel_rfl
theorem In.look {w : World} {b : Nat} {L : List ByteArray} (h : In w b L) {k : ByteArray} (hk : k.size ≤ maxLen) :
    (Instr.lookup 67 (.map (some b)) (.string k) false).run Tryz.prog w = .ok (.int .i64 (if hasL L k = true then 1 else 0)) w := by
  have := h.mp.look (t := 67) (e := 3) Tryz.underlying67 (zeroI w) hk
  rw [this]
  unfold oneF
  split <;> rfl
theorem In.store {w : World} {b : Nat} {L : List ByteArray} (h : In w b L) (hn : L.length < maxLen) {k : ByteArray} (hk : k.size ≤ maxLen) :
    ∃ w', (Instr.mapUpdate 67 (.map (some b)) (.string k) (.int .i64 1)).run Tryz.prog w = .ok () w' ∧ In w' b (add L k) ∧ w.grownBy w' (some b) ∧ w'.heap.size = w.heap.size := by
  obtain ⟨D, h1, h2, h5, h6⟩ := h
  obtain ⟨w', hrun, h3, h4⟩ := h1.store keyedS Tryz.underlying67 hn (keyS hk) (d := .held (.int .i64 1)) (ps := []) (val := .int .i64 1) rfl
  have hsz : Maps.size (D.put (lk k) (.held (.int .i64 1))) = (add L k).length := by
    rw [Maps.size_put (h1.tidy keyedS), (h2 k).1]
    unfold add oneF
    by_cases e : hasL L k = true
    · simp [e, h6]
    · simp [e, h6]
  refine ⟨w', hrun, ⟨_, by have := tight h3; rw [hsz] at this; exact this, fun k' => ?_, nodup_add h5 k, hsz⟩, h4.grown, ?_⟩
  · have him := h1.isMap
    by_cases e : k' = k
    · subst e
      have hin : hasL (add L k') k' = true := hasL_iff.2 (mem_add.2 (.inr rfl))
      refine ⟨?_, fun u hu z => ?_⟩
      · rw [Maps.has_put_same him (isLit _)]; simp [oneF, hin]
      · simp only [oneF, if_pos hin] at hu
        obtain rfl := Option.some.inj hu
        exact Maps.atKey_put_same him (isLit _) _ _
    · have hne : lk k' ≠ lk k := fun h => e (lk_inj h)
      have hii : hasL (add L k) k' = hasL L k' := by rw [Bool.eq_iff_iff, hasL_iff, hasL_iff, mem_add]; simp [e]
      refine ⟨?_, fun u hu z => ?_⟩
      · rw [Maps.has_put_other hne, (h2 k').1]; simp [oneF, hii]
      · have hu' : oneF L k' = some u := by rw [← hu]; simp [oneF, hii]
        rw [Maps.atKey_put_other hne]
        exact (h2 k').2 u hu' z
  · obtain ⟨es, clock, es', clock', _, rfl⟩ := h4
    simp [ChangeMaps.setBlock]
/-- 'len(m)' -/
theorem wpList_len_in {w : World} {ops : Array Oper} {rest : List Oper} {o : Oper} {a : Act} {Q : Exit → Act → World → Prop} (hg : o.guard = none) (m : Operand) (hop : o.op = Op.call { callee := Callee.builtin Builtin.len, args := #[m], argTypes := #[67] })
    (b : Nat) (L : List ByteArray) (hm : a.eval m = .map (some b)) (h : In w b L) (hK : wpList Tryz.prog ops Q rest (a.put o.dst (.int .i64 L.length)) w) :
    wpList Tryz.prog ops Q (o :: rest) a w := by
  obtain ⟨D, h1, h2, h5, h6⟩ := h
  refine Go.wpList_len_own w hg m _ hop 9 3 Tryz.underlying67 _ b _ D hm h1 ?_
  rw [h6]
  exact hK
end Go.Proofs.YtmmmghpimdfleaaGreatDoor.Mp
