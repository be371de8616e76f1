/-
  A record in a box, all of its memory its own and known by bounds; rows that are written over.
-/
import Derived.Test.YtmmmghpimdfleaaGreatDoorSep
import Derived.Test.YtmmmghpimdfleaaGreatDoorGrpP
set_option linter.unusedVariables false
set_option linter.unusedSimpArgs false
namespace Go.Proofs.YtmmmghpimdfleaaGreatDoor.St
open Go.RowKit Mem Tr
open Go.Proofs.YtmmmghpimdfleaaGreatDoor.Own

structure GotR (W : World) (lo hi nb : Nat) (oc : List Value) (x : Rec) : Prop where
  rng : W.rangeAt nb 0 oc
  ge : lo ≤ nb
  lt : nb < hi
  le : hi ≤ W.heap.size
  rcd : RecW (fun b => lo ≤ b ∧ b < hi ∧ b ≠ nb) W oc x
theorem GotR.kp {N : Nat → Prop} {W W' : World} {lo hi nb : Nat} {oc : List Value} {x : Rec} (h : GotR W lo hi nb oc x) (hk : Kp N W W') (hN : ∀ q, lo ≤ q → q < hi → ¬ N q) : GotR W' lo hi nb oc x where
  rng := fun j u hj => by rw [hk.cell (p := ⟨nb, 0 + j, none⟩) (Nat.lt_of_lt_of_le h.lt h.le) (hN nb h.ge h.lt)]; exact h.rng j u hj
  ge := h.ge
  lt := h.lt
  le := Nat.le_trans h.le hk.size
  rcd := h.rcd.ag hk.size (Ag.of_kp hk (fun q _ hq => hN q hq.1 hq.2.1))
theorem GotR.below {W W' : World} {lo hi nb : Nat} {oc : List Value} {x : Rec} (h : GotR W lo hi nb oc x) (hb : Below W.heap.size W W') : GotR W' lo hi nb oc x :=
  h.kp (Kp.of_below (M := fun _ => False) hb) (fun _ _ _ h => h)
theorem GotR.recAt {W : World} {lo hi nb : Nat} {oc : List Value} {x : Rec} (h : GotR W lo hi nb oc x) : RecAt (fun _ => True) W oc x := h.rcd.rec.sub (fun _ _ _ => trivial)
theorem GotR.parts {W : World} {lo hi nb : Nat} {oc : List Value} {x : Rec} (h : GotR W lo hi nb oc x) :
    ∃ a1 c1 a2 c2, ∃ S1 S2 : Nat → Prop, W.cell? ⟨nb, 1, none⟩ = some (.int .i64 x.tree.kind) ∧ W.cell? ⟨nb, 2, none⟩ = some (.bool x.tree.exec) ∧ W.cell? ⟨nb, 3, none⟩ = some (.string x.tree.text) ∧
      W.cell? ⟨nb, 4, none⟩ = some (.slice a1 x.tree.kids.len c1) ∧ W.cell? ⟨nb, 5, none⟩ = some (.slice a2 x.refs.length c2) ∧ (∀ q, S1 q → lo ≤ q ∧ q < hi ∧ q ≠ nb) ∧ (∀ q, S2 q → lo ≤ q ∧ q < hi ∧ q ≠ nb) ∧ (∀ q, S1 q → ¬ S2 q) ∧
      SepK S1 W (.slice a1 x.tree.kids.len c1) x.tree.kids ∧ StrsW S2 W (.slice a2 x.refs.length c2) x.refs := by
  obtain ⟨kv, rv, S1, S2, hcs, hh, s1, s2, dj, hk, hr⟩ := h.rcd
  obtain ⟨a1, c1, rfl, k1, k2, k3⟩ := hk
  obtain ⟨a2, c2, rfl, r1, r2, r3⟩ := hr
  have c : ∀ j u, oc[j]? = some u → W.cell? ⟨nb, j, none⟩ = some u := fun j u hj => by have := h.rng j u hj; rwa [Nat.zero_add] at this
  subst hcs
  exact ⟨a1, c1, a2, c2, S1, S2, c 1 _ rfl, c 2 _ rfl, c 3 _ rfl, c 4 _ rfl, c 5 _ rfl, s1, s2, dj, ⟨a1, c1, rfl, k1, k2, k3⟩, ⟨a2, c2, rfl, r1, r2, r3⟩⟩

/-- A row of n cells that can be written. -/
def Thr (S : Nat → Prop) (w : World) (ao : Option Addr) (n : Nat) : Prop := n = 0 ∨ ∃ b off, ao = some ⟨b, off, none⟩ ∧ S b ∧ w.there b off n
theorem Thr.of {S : Nat → Prop} {w : World} {a : Option Addr} {n c : Nat} {l : List ByteArray} (h : StrsW S w (.slice a n c) l) : Thr S w a n := by
  obtain ⟨ao, cap, e, _, _, hk⟩ := h
  cases e
  rcases hk with rfl | ⟨b, off, rfl, hs, hw, hc⟩
  · exact .inl rfl
  · exact .inr ⟨b, off, rfl, hs, fun j hj => ⟨by rw [hc j hj]; rfl, hw.2 _⟩⟩
theorem there_set {w : World} {b off n : Nat} (h : w.there b off n) (b' o' : Nat) (u : Value) : (w.setCell ⟨b', o', none⟩ u).there b off n := World.there_setCells h b' o' [u]
theorem Thr.set {S : Nat → Prop} {w : World} {a : Option Addr} {n : Nat} (h : Thr S w a n) (b' o' : Nat) (u : Value) : Thr S (w.setCell ⟨b', o', none⟩ u) a n :=
  h.imp id (fun ⟨b, off, e, hs, ht⟩ => ⟨b, off, e, hs, there_set ht b' o' u⟩)
theorem Thr.at {S : Nat → Prop} {w : World} {a : Option Addr} {n j : Nat} (h : Thr S w a n) (hj : j < n) : ∃ b off u, a = some ⟨b, off, none⟩ ∧ S b ∧ w.cell? ⟨b, off + j, none⟩ = some u ∧ w.frozen? ⟨b, off + j, none⟩ = false := by
  rcases h with h0 | ⟨b, off, e, hs, ht⟩
  · omega
  · obtain ⟨u, hu⟩ := Option.isSome_iff_exists.1 (ht j hj).1
    exact ⟨b, off, u, e, hs, hu, (ht j hj).2⟩
theorem Thr.kp {S N : Nat → Prop} {w w' : World} {a : Option Addr} {n : Nat} (h : Thr S w a n) (hk : Kp N w w') (hN : ∀ q, S q → ¬ N q) : Thr S w' a n := by
  rcases h with h0 | ⟨b, off, e, hs, ht⟩
  · exact .inl h0
  · refine .inr ⟨b, off, e, hs, fun j hj => ?_⟩
    obtain ⟨u, hu⟩ := Option.isSome_iff_exists.1 (ht j hj).1
    have hb := World.block_lt_of_cell? w _ hu
    exact ⟨by rw [hk.cell (p := ⟨b, off + j, none⟩) hb (hN b hs), hu]; rfl, by rw [hk.frozen (p := ⟨b, off + j, none⟩) hb (hN b hs)]; exact (ht j hj).2⟩
end Go.Proofs.YtmmmghpimdfleaaGreatDoor.St
