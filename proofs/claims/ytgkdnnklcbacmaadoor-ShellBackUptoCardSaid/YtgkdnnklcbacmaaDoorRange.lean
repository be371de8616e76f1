/-
  A loop over a function, where the function keeps a state of its own in a cell: what it may turn is said by a relation of worlds.
-/
import Derived.RangeFuncNested
import Derived.RangeFuncBound
import Derived.RangeFuncCalls
import Derived.RangeFuncLeaves
import Derived.RangeFuncBox
namespace Go.Proofs.YtgkdnnklcbacmaaDoor.Rng
open Go.RowKit

/-- J stands whatever Mv turns. -/
def Stable {β : Type} (Mv : World → World → Prop) (J : β → World → Prop) : Prop := ∀ s A B, J s A → Mv A B → J s B

/-- What a function that is ranged over owes: it calls the loop's rounds with xs in order, or with a beginning of it where a round said no. -/
def Gives {α : Type} (n : Nat) (P : Program) (gf : Nat) (lb : Array Value) (encs : α → Array Value) (Mv Kp : World → World → Prop) (xs : List α) (w : World) : Prop :=
  ∀ (l : Nat) (J Jx : List α → World → Prop) (W : World), Below w.heap.size w W → Stable Mv J → Stable Mv Jx →
    (∀ pre x W1, J pre W1 → pre ++ [x] <+: xs → YieldAt Fence.wide (n - 1) P l (encs x) W1 fun e W' =>
      (e = .returned (.bool true) ∧ J (pre ++ [x]) W' ∧ Kp W1 W') ∨ (e = .returned (.bool false) ∧ Jx (pre ++ [x]) W')) →
    J [] W →
    CallsIn Fence.wide n P gf (#[.func (.yield l) #[] #[]] ++ lb) W fun e W' => (∃ v, e = .returned v) ∧ (J xs W' ∨ ∃ pre, pre <+: xs ∧ Jx pre W')

theorem range_law {P : Program} {n : Nat} {α : Type} {g : Operand} {ps : Array Tmp} {assign body : Code} {Q : Exit → Act → World → Prop} {a : Act} {w : World} {gf : Nat} {lb : Array Value}
    (hg : a.eval g = .func (.func gf) #[] lb) (eg : ∀ args w, (callFunc gf args).run P w = .ok (.enter gf args) w)
    {encs : α → Array Value} {Mv Kp : World → World → Prop} {xs : List α} (hseq : Gives (n - 1) P gf lb encs Mv Kp xs w)
    (hMv : ∀ A B, Mv A B → ∀ (k : Nat) (o : Obj), w.heap.size ≤ k → A.heap[k]? = some o → o.isCells = false → B.heap[k]? = some o)
    (hKt : ∀ {A B C : World}, Kp A B → Kp B C → Kp A C) (hKb : ∀ (W : World) (l : Nat) (o o' : Obj), w.heap.size ≤ l → W.heap[l]? = some o → o.isCells = false → Kp W (W.putObj l o'))
    (hps : ∀ x, (encs x).size = ps.size)
    (I : List α → World → Prop) (Ix : Code → List α → World → Prop) (hI : OwnFrom w.heap.size I) (hIx : ∀ c, OwnFrom w.heap.size (Ix c)) (mI : Stable Mv I) (mIx : ∀ c, Stable Mv (Ix c)) (h0 : I [] w) (a₁ : α → Act)
    (hassign : ∀ (l : Nat) (x : α) (W : World) (K : Act → World → Prop), K (a₁ x) W →
      assign.wpIn (Fence.wide.inRound l) (n - 1 - 1) P (Exit.then K (fun _ _ _ => False)) { tmps := (ps.zip (encs x)).foldl (fun t (p, v) => t.setIfInBounds p v) a.tmps, defers := [] } W)
    (hbody : ∀ (l : Nat) (pre : List α) (x : α) (W : World), I pre W → pre ++ [x] <+: xs → body.wpIn (Fence.wide.inRound l) (n - 1 - 1) P (ownPostG w.heap.size Kp I Ix (pre ++ [x]) W) (a₁ x) W)
    (hdone : ∀ (D : Nat) (W : World), w.heap.size ≤ D → I xs W → W.heap[D]? = some (.deferred (some [])) → Q .normal { a with defers := { target := .collected D, args := #[] } :: a.defers } W)
    (hstop : ∀ (D : Nat) (c : Code) (pre : List α) (W : World), w.heap.size ≤ D → pre <+: xs → Ix c pre W → W.heap[D]? = some (.deferred (some [])) → c.wpIn Fence.wide n P Q { a with defers := { target := .collected D, args := #[] } :: a.defers } W) :
    (Code.rangeFunc g ps assign body).wpIn Fence.wide n P Q a w := by
  refine wpIn_rangeFunc fun fn hfn => ?_
  let rec' : LoopState → Option Code → Loop := fun st pe => { state := st, pending := pe, fn, tmps := a.tmps, params := ps, assign, body, defers := w.heap.size }
  have erec : ∀ st pe, rec' st pe = { state := st, pending := pe, fn, tmps := a.tmps, params := ps, assign, body, defers := w.heap.size } := fun _ _ => rfl
  generalize rec' = rec at erec
  -- the two blocks that the loop lays for itself: D for the rounds' deferred calls, D + 1 its record
  obtain ⟨D, hD⟩ : ∃ D, w.heap.size = D := ⟨_, rfl⟩
  obtain ⟨W1, hW1⟩ : ∃ W1, (w.alloc (.deferred (some []))).alloc (.loop (rec .ready none)) = W1 := ⟨_, rfl⟩
  have hs1 : W1.heap.size = D + 2 := by rw [← hW1]; simp [hD]
  have hL1 : W1.heap[D + 1]? = some (.loop (rec .ready none)) := by
    have := World.alloc_heap_new (w.alloc (.deferred (some []))) (.loop (rec .ready none))
    rw [World.size_alloc, hD, hW1] at this; exact this
  have hK1 : W1.heap[D]? = some (.deferred (some [])) := by
    rw [← hW1, ← hD]; exact (Below.heap_alloc _ _ _ (by simp)).trans (World.alloc_heap_new w _)
  have hI1 : I [] W1 := by rw [← hW1]; exact hI.alloc _ (hI.alloc _ h0)
  have hb1 : Below w.heap.size w W1 := by rw [← hW1]; exact ((Below.refl _ w).alloc (Nat.le_refl _) _).alloc (by simp) _
  rw [hD] at hMv hKb hI hIx hbody hdone hstop
  refine ⟨D + 1, [{ target := .collected D, args := #[] }], W1, { target := .fn (.func gf) lb, args := #[.func (.yield (D + 1)) #[] #[]] }, W1, gf, #[.func (.yield (D + 1)) #[] #[]] ++ lb, W1, ?_, ?_, ?_, ?_, fun h => by simp [Fence.wide] at h, ?_⟩
  · have := run_enterLoop_outer (P := P) (w := w) fn a.tmps ps assign body
    rw [← erec, hD, hW1] at this
    exact this
  · simp only [resolve, hg]
    simp [go_sem]
  · exact fun _ _ => trivial
  · simp [invoke, go_sem, eg]
  have keep : ∀ (A : World) (o' : Obj) (k : Nat) (o : Obj), k ≠ D + 1 → A.heap[k]? = some o → (A.putObj (D + 1) o').heap[k]? = some o := fun A o' k o hk h => (World.putObj_heap_other hk).trans h
  refine (hseq (D + 1)
    (fun pre W => I pre W ∧ W.heap[D + 1]? = some (.loop (rec .ready none)) ∧ W.heap[D]? = some (.deferred (some [])))
    (fun pre W => ∃ c, Ix c pre W ∧ W.heap[D + 1]? = some (.loop (rec .done (some c))) ∧ W.heap[D]? = some (.deferred (some [])))
    W1 hb1
    (fun s A B hs hm => ⟨mI s A B hs.1 hm, hMv A B hm _ _ (by omega) hs.2.1 rfl, hMv A B hm _ _ (Nat.le_refl _) hs.2.2 rfl⟩)
    (fun s A B hs hm => by
      obtain ⟨c, hc, hl, hk⟩ := hs
      exact ⟨c, mIx c s A B hc hm, hMv A B hm _ _ (by omega) hl rfl, hMv A B hm _ _ (Nat.le_refl _) hk rfl⟩)
    ?round ⟨hI1, hL1, hK1⟩).mono ?after
  case round =>
    rintro pre x W ⟨hi, hl, hk⟩ hpre
    have hlt : D + 1 < W.heap.size := (Array.getElem?_eq_some_iff.1 hl).1
    have hy := run_yield (P := P) (args := encs x) hl (by rw [erec]; exact hps x)
    rw [erec] at hy
    obtain ⟨busy, hbusy⟩ : ∃ W2, W.putObj (D + 1) (.loop { rec .ready none with state := .busy }) = W2 := ⟨_, rfl⟩
    have hl2 : busy.heap[D + 1]? = some (.loop { rec .ready none with state := .busy }) := by rw [← hbusy]; exact World.putObj_heap_same hlt
    have hk2 : busy.heap[D]? = some (.deferred (some [])) := by rw [← hbusy]; exact keep W _ D _ (by omega) hk
    have hw2 : Kp W busy := by rw [← hbusy]; exact hKb _ _ _ _ (by omega) hl rfl
    have hi2 : I pre busy := by rw [← hbusy]; exact hI.putObj _ hi (by omega) hl rfl
    refine ⟨fn, _, assign, body, hy, roundIn_of_wpIn hfn (hassign _ x W _ ⟨busy, ?_, ?_⟩)⟩
    · rw [← hbusy]; exact run_beginRound hl (by rw [erec])
    have fin : ∀ (jump : Option Code) (W3 : World), KeepsFrom D busy W3 →
        (Instr.endRound (D + 1) jump).run P W3 = .ok (.bool jump.isNone) (W3.putObj (D + 1) (.loop (rec (if jump.isNone then .ready else .done) jump))) ∧
        (∃ o : Obj, W3.heap[D + 1]? = some o ∧ o.isCells = false) ∧
        (W3.putObj (D + 1) (.loop (rec (if jump.isNone then .ready else .done) jump))).heap[D + 1]? = some (.loop (rec (if jump.isNone then .ready else .done) jump)) ∧
        (W3.putObj (D + 1) (.loop (rec (if jump.isNone then .ready else .done) jump))).heap[D]? = some (.deferred (some [])) := fun jump W3 hk3 => by
      have hl3 := hk3.same _ _ (by omega) hl2 rfl
      have hr := run_endRound (P := P) jump hl3
      rw [erec] at hr
      exact ⟨by rw [erec]; exact hr, ⟨_, hl3, rfl⟩, World.putObj_heap_same (Array.getElem?_eq_some_iff.1 hl3).1, keep W3 _ D _ (by omega) (hk3.same _ _ (Nat.le_refl _) hk2 rfl)⟩
    refine wpIn_mono (hbody _ pre x _ hi2 hpre) ?_
    rintro e a3 W3 hp
    cases e with
    | normal =>
      obtain ⟨hk3, hkp3, hi3⟩ := hp
      obtain ⟨hr, ⟨o, hl3, ho⟩, hl4, hk4⟩ := fin none W3 hk3
      exact ⟨_, _, hr, .inl ⟨rfl, ⟨hI.putObj _ hi3 (by omega) hl3 ho, hl4, hk4⟩, hKt (hKt hw2 hkp3) (hKb _ _ _ _ (by omega) hl3 ho)⟩⟩
    | ret =>
      obtain ⟨hk3, hi3⟩ := hp
      obtain ⟨hr, ⟨o, hl3, ho⟩, hl4, hk4⟩ := fin (some .ret) W3 hk3
      exact ⟨_, _, hr, .inr ⟨rfl, .ret, (hIx _).putObj _ hi3 (by omega) hl3 ho, hl4, hk4⟩⟩
    | exit id =>
      obtain ⟨hk3, hi3⟩ := hp
      obtain ⟨hr, ⟨o, hl3, ho⟩, hl4, hk4⟩ := fin (some (.exit id)) W3 hk3
      exact ⟨_, _, hr, .inr ⟨rfl, .exit id, (hIx _).putObj _ hi3 (by omega) hl3 ho, hl4, hk4⟩⟩
    | goto t =>
      obtain ⟨hk3, hi3⟩ := hp
      obtain ⟨hr, ⟨o, hl3, ho⟩, hl4, hk4⟩ := fin (some (.goto t)) W3 hk3
      exact ⟨_, _, hr, .inr ⟨rfl, .goto t, (hIx _).putObj _ hi3 (by omega) hl3 ho, hl4, hk4⟩⟩
    | panic ch => exact hp.elim
    | outgrown => exact hp.elim
  case after =>
    have done : ∀ (W2 : World) (st : LoopState) (pe : Option Code), st ≠ .busy → W2.heap[D + 1]? = some (.loop (rec st pe)) → (Instr.endLoop (D + 1)).run P W2 = .ok pe (W2.putObj (D + 1) (.loop (rec .exhausted pe))) := fun W2 st pe hst hl => by
      have hr := run_endLoop (P := P) hl (by rw [erec]; exact hst)
      rw [erec] at hr
      rw [erec]; exact hr
    rintro e W2 ⟨⟨v, rfl⟩, (⟨hi, hl, hk⟩ | ⟨pre, hpre, c, hi, hl, hk⟩)⟩
    · exact ⟨none, _, done W2 _ _ (by simp) hl, hdone D _ (Nat.le_refl _) (hI.putObj _ hi (by omega) hl rfl) (keep W2 _ D _ (by omega) hk)⟩
    · exact ⟨some c, _, done W2 _ _ (by simp) hl, hstop D c pre _ (Nat.le_refl _) hpre ((hIx c).putObj _ hi (by omega) hl rfl) (keep W2 _ D _ (by omega) hk)⟩
end Go.Proofs.YtgkdnnklcbacmaaDoor.Rng
