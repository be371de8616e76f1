/-
  Trees that lie apart: each row of entries in a block of its own that can be written; of no function of the program.
-/
import Derived.Test.YtmmmghpimdfleaaGreatDoorGrpA
set_option linter.unusedVariables false
set_option linter.unusedSimpArgs false
namespace Go.Proofs.YtmmmghpimdfleaaGreatDoor.Tr
open Go.RowKit Mem

/-- A block that can be written. -/
def Wr (w : World) (b : Nat) : Prop := b < w.heap.size ∧ ∀ j, w.frozen? ⟨b, j, none⟩ = false
theorem Wr.kept {w w' : World} {b : Nat} (h : Wr w b) (hz : w.heap.size ≤ w'.heap.size) (hk : w'.heap[b]? = w.heap[b]?) : Wr w' b :=
  ⟨Nat.lt_of_lt_of_le h.1 hz, fun j => by rw [World.frozen?_of_block (w := w) hk]; exact h.2 j⟩
theorem Wr.below {w w' : World} {b : Nat} (h : Wr w b) (hb : Below w.heap.size w w') : Wr w' b := h.kept hb.size (hb.block b h.1)
theorem Wr.kp {M : Nat → Prop} {w w' : World} {b : Nat} (h : Wr w b) (hb : Kp M w w') (hn : ¬ M b) : Wr w' b := h.kept hb.size (hb.block b h.1 hn)
theorem Wr.of_bx {w : World} {b : Nat} {cs : Array Value} {t : TypeId} (h : Bx w b cs t) : Wr w b := ⟨h.lt, fun j => h.frozen j⟩

/-- The cells of entries from b, off on; what hangs on them lies in S, each in a part of its own. -/
def SepE (w : World) : Kids → (Nat → Prop) → Nat → Nat → Prop
  | .nil, _, _, _ => True
  | .cons nm k e t sub rest, S, b, off => w.cell? ⟨b, off, none⟩ = some (.string nm) ∧ w.cell? ⟨b, off + 1, none⟩ = some (.int .i64 k) ∧ w.cell? ⟨b, off + 2, none⟩ = some (.bool e) ∧ w.cell? ⟨b, off + 3, none⟩ = some (.string t) ∧
      ∃ S1 S2 : Nat → Prop, (∀ q, S1 q → S q) ∧ (∀ q, S2 q → S q) ∧ (∀ q, S1 q → ¬ S2 q) ∧
        (∃ ao cap, w.cell? ⟨b, off + 4, none⟩ = some (.slice ao sub.len cap) ∧ sub.len ≤ cap ∧ cap ≤ maxLen ∧ (sub = .nil ∨ ∃ b' o', ao = some ⟨b', o', none⟩ ∧ S1 b' ∧ Wr w b' ∧ SepE w sub (fun q => S1 q ∧ q ≠ b') b' o')) ∧ SepE w rest S2 b (off + 5)

/-- A slice of entries, apart. -/
def SepK (S : Nat → Prop) (w : World) (v : Value) (ks : Kids) : Prop :=
  ∃ ao cap, v = .slice ao ks.len cap ∧ ks.len ≤ cap ∧ cap ≤ maxLen ∧ (ks = .nil ∨ ∃ b off, ao = some ⟨b, off, none⟩ ∧ S b ∧ Wr w b ∧ SepE w ks (fun q => S q ∧ q ≠ b) b off)

theorem SepE.keep {w w' : World} (hz : w.heap.size ≤ w'.heap.size) : ∀ {ks : Kids} {S : Nat → Prop} {b off : Nat}, Ag S w w' → (∀ j, off ≤ j → w'.cell? ⟨b, j, none⟩ = w.cell? ⟨b, j, none⟩) → SepE w ks S b off → SepE w' ks S b off := by
  intro ks
  induction ks with
  | nil => intro S b off _ _ _; trivial
  | cons nm k e t sub rest ihs ihr =>
    intro S b off ha hb h
    obtain ⟨h0, h1, h2, h3, S1, S2, s1, s2, dj, ⟨ao, cap, h4, hl, hm, hk⟩, hr⟩ := h
    have c : ∀ {j : Nat} {v : Value}, off ≤ j → w.cell? ⟨b, j, none⟩ = some v → w'.cell? ⟨b, j, none⟩ = some v := fun hj h => by rw [hb _ hj]; exact h
    exact ⟨c (Nat.le_refl _) h0, c (by omega) h1, c (by omega) h2, c (by omega) h3, S1, S2, s1, s2, dj, ⟨ao, cap, c (by omega) h4, hl, hm, hk.imp id (fun ⟨b', o', e1, e2, e3, e4⟩ => ⟨b', o', e1, e2, e3.kept hz (ha b' (s1 _ e2) e3.1), ihs (ha.mono fun q hq => s1 _ hq.1) (fun j _ => World.cell?_of_block (w := w) (ha b' (s1 _ e2) e3.1)) e4⟩)⟩, ihr (ha.mono s2) (fun j hj => hb j (by omega)) hr⟩
theorem SepE.ag {w w' : World} (hz : w.heap.size ≤ w'.heap.size) {ks : Kids} {S : Nat → Prop} {b off : Nat} (ha : Ag S w w') (hb : w'.heap[b]? = w.heap[b]?) (h : SepE w ks S b off) : SepE w' ks S b off :=
  h.keep hz ha (fun j _ => World.cell?_of_block (w := w) hb)
theorem SepE.sub {w : World} : ∀ {ks : Kids} {S S' : Nat → Prop} {b off : Nat}, (∀ q, q < w.heap.size → S q → S' q) → SepE w ks S b off → SepE w ks S' b off := by
  intro ks
  induction ks with
  | nil => intro S S' b off _ _; trivial
  | cons nm k e t sub rest ihs ihr =>
    intro S S' b off hs h
    obtain ⟨h0, h1, h2, h3, S1, S2, s1, s2, dj, ⟨ao, cap, h4, hl, hm, hk⟩, hr⟩ := h
    exact ⟨h0, h1, h2, h3, fun q => S1 q ∧ q < w.heap.size, fun q => S2 q ∧ q < w.heap.size, fun q hq => hs q hq.2 (s1 q hq.1), fun q hq => hs q hq.2 (s2 q hq.1), fun q h1 h2 => dj q h1.1 h2.1,
      ⟨ao, cap, h4, hl, hm, hk.imp id (fun ⟨b', o', e1, e2, e3, e4⟩ => ⟨b', o', e1, ⟨e2, e3.1⟩, e3, ihs (fun q hz hq => ⟨⟨hq.1, hz⟩, hq.2⟩) e4⟩)⟩, ihr (fun q hz hq => ⟨hq, hz⟩) hr⟩
theorem SepK.ag {S : Nat → Prop} {w w' : World} {v : Value} {ks : Kids} (h : SepK S w v ks) (hz : w.heap.size ≤ w'.heap.size) (ha : Ag S w w') : SepK S w' v ks := by
  obtain ⟨ao, cap, hv, hl, hm, hk⟩ := h
  exact ⟨ao, cap, hv, hl, hm, hk.imp id (fun ⟨b, o, e1, e2, e3, e4⟩ => ⟨b, o, e1, e2, e3.kept hz (ha b e2 e3.1), e4.ag hz (ha.mono fun q hq => hq.1) (ha b e2 e3.1)⟩)⟩
theorem SepK.sub {S S' : Nat → Prop} {w : World} {v : Value} {ks : Kids} (h : SepK S w v ks) (hs : ∀ q, q < w.heap.size → S q → S' q) : SepK S' w v ks := by
  obtain ⟨ao, cap, hv, hl, hm, hk⟩ := h
  exact ⟨ao, cap, hv, hl, hm, hk.imp id (fun ⟨b, o, e1, e2, e3, e4⟩ => ⟨b, o, e1, hs b e3.1 e2, e3, e4.sub (fun q hz hq => ⟨hs q hz hq.1, hq.2⟩)⟩)⟩
theorem SepK.below {S : Nat → Prop} {w w' : World} {v : Value} {ks : Kids} (h : SepK S w v ks) (hb : Below w.heap.size w w') : SepK S w' v ks := h.ag hb.size (Ag.of_below hb)
theorem SepE.elems {S : Nat → Prop} {w : World} : ∀ {ks : Kids} {S' : Nat → Prop} {b off : Nat}, S b → (∀ q, S' q → S q) → SepE w ks S' b off → Elems S w ks b off := by
  intro ks
  induction ks with
  | nil => intro S' b off _ _ _; trivial
  | cons nm k e t sub rest ihs ihr =>
    intro S' b off hb hs h
    obtain ⟨h0, h1, h2, h3, S1, S2, s1, s2, dj, ⟨ao, cap, h4, hl, hm, hk⟩, hr⟩ := h
    exact ⟨hb, h0, h1, h2, h3, ⟨ao, cap, h4, hl, hm, hk.imp id (fun ⟨b', o', e1, e2, e3, e4⟩ => ⟨b', o', e1, ihs (hs _ (s1 _ e2)) (fun q hq => hs _ (s1 _ hq.1)) e4⟩)⟩, ihr hb (fun q hq => hs _ (s2 _ hq)) hr⟩
theorem SepK.kids {S : Nat → Prop} {w : World} {v : Value} {ks : Kids} (h : SepK S w v ks) : KidsAt S w v ks := by
  obtain ⟨ao, cap, hv, hl, hm, hk⟩ := h
  exact ⟨ao, cap, hv, hl, hm, hk.imp id (fun ⟨b, o, e1, e2, e3, e4⟩ => ⟨b, o, e1, e4.elems e2 (fun q hq => hq.1)⟩)⟩

/-- The cells of entries one behind the other, what hangs on them apart. -/
def SepRow (w : World) : Kids → (Nat → Prop) → List Value → Prop
  | .nil, _, xs => xs = []
  | .cons nm k e t s r, S, xs => ∃ (sv : Value) (rest : List Value) (S1 S2 : Nat → Prop), xs = .string nm :: .int .i64 k :: .bool e :: .string t :: sv :: rest ∧ (∀ q, S1 q → S q) ∧ (∀ q, S2 q → S q) ∧ (∀ q, S1 q → ¬ S2 q) ∧ SepK S1 w sv s ∧ SepRow w r S2 rest
theorem SepRow.ag {w w' : World} (hz : w.heap.size ≤ w'.heap.size) : ∀ {ks : Kids} {S : Nat → Prop} {xs : List Value}, Ag S w w' → SepRow w ks S xs → SepRow w' ks S xs := by
  intro ks
  induction ks with
  | nil => intro S xs _ h; exact h
  | cons nm k e t s r _ ihr =>
    rintro S xs ha ⟨sv, rest, S1, S2, h1, s1, s2, dj, h2, h3⟩
    exact ⟨sv, rest, S1, S2, h1, s1, s2, dj, h2.ag hz (ha.mono s1), ihr (ha.mono s2) h3⟩
theorem SepRow.below {w w' : World} {ks : Kids} {S : Nat → Prop} {xs : List Value} (h : SepRow w ks S xs) (hb : Below w.heap.size w w') : SepRow w' ks S xs := h.ag hb.size (Ag.of_below hb)
theorem SepRow.sub {w : World} : ∀ {ks : Kids} {S S' : Nat → Prop} {xs : List Value}, (∀ q, q < w.heap.size → S q → S' q) → SepRow w ks S xs → SepRow w ks S' xs := by
  intro ks
  induction ks with
  | nil => intro S S' xs _ h; exact h
  | cons nm k e t s r _ ihr =>
    rintro S S' xs hs ⟨sv, rest, S1, S2, h1, s1, s2, dj, h2, h3⟩
    exact ⟨sv, rest, fun q => S1 q ∧ q < w.heap.size, fun q => S2 q ∧ q < w.heap.size, h1, fun q hq => hs q hq.2 (s1 q hq.1), fun q hq => hs q hq.2 (s2 q hq.1), fun q a b => dj q a.1 b.1, h2.sub (fun q hz hq => ⟨hq, hz⟩), ihr (fun q hz hq => ⟨hq, hz⟩) h3⟩
theorem SepRow.snoc {w : World} {nm : ByteArray} {k : Int} {e : Bool} {t : ByteArray} {s : Kids} {sv : Value} {S' : Nat → Prop} (hs : SepK S' w sv s) : ∀ {ks : Kids} {S : Nat → Prop} {xs : List Value}, (∀ q, S q → ¬ S' q) → SepRow w ks S xs →
    SepRow w (ks.append (.cons nm k e t s .nil)) (fun q => S q ∨ S' q) (xs ++ [.string nm, .int .i64 k, .bool e, .string t, sv]) := by
  intro ks
  induction ks with
  | nil => rintro S xs _ rfl; exact ⟨sv, [], S', fun _ => False, rfl, fun q h => .inr h, fun q h => h.elim, fun q _ h => h, hs, rfl⟩
  | cons nm' k' e' t' s' r _ ihr =>
    rintro S xs hd ⟨sv', rest, S1, S2, rfl, s1, s2, dj, h2, h3⟩
    exact ⟨sv', rest ++ [.string nm, .int .i64 k, .bool e, .string t, sv], S1, fun q => S2 q ∨ S' q, rfl, fun q h => .inl (s1 q h), fun q h => h.imp (s2 q) id, fun q h1 h => h.elim (dj q h1) (hd q (s1 q h1)), h2, ihr (fun q hq => hd q (s2 q hq)) h3⟩
theorem SepRow.one {w : World} : ∀ {ks : Kids} {S : Nat → Prop} {xs : List Value}, SepRow w ks S xs → ∀ v ∈ xs, v.oneCell' = true := by
  intro ks
  induction ks with
  | nil => rintro S xs rfl v hv; cases hv
  | cons nm k e t s r _ ihr =>
    rintro S xs ⟨sv, rest, S1, S2, rfl, _, _, _, ⟨ao, cap, rfl, _⟩, h3⟩ v hv
    simp only [List.mem_cons] at hv
    rcases hv with rfl | rfl | rfl | rfl | rfl | hv
    · rfl
    · rfl
    · rfl
    · rfl
    · rfl
    · exact ihr h3 v hv
theorem SepRow.elems {w : World} {b : Nat} : ∀ {ks : Kids} {S : Nat → Prop} {xs : List Value} {off : Nat}, SepRow w ks S xs → (∀ j u, xs[j]? = some u → w.cell? ⟨b, off + j, none⟩ = some u) → SepE w ks S b off := by
  intro ks
  induction ks with
  | nil => intro _ _ _ _ _; trivial
  | cons nm k e t s r _ ihr =>
    rintro S xs off ⟨sv, rest, S1, S2, rfl, s1, s2, dj, ⟨ao, cap, rfl, hl, hm, hk⟩, h3⟩ hc
    refine ⟨by simpa using hc 0 _ rfl, hc 1 _ rfl, hc 2 _ rfl, hc 3 _ rfl, S1, S2, s1, s2, dj, ⟨ao, cap, hc 4 _ rfl, hl, hm, hk⟩, ihr h3 (fun j u hj => ?_)⟩
    have := hc (5 + j) u (by rw [show 5 + j = j + 5 by omega]; exact hj)
    rwa [← Nat.add_assoc] at this
theorem SepRow.kids {S : Nat → Prop} {w : World} {B : Nat} {t : TypeId} {v : Value} {ks : Kids} {xs : List Value} (h : SepRow w ks S xs) (ho : w.ownsRow B t 5 v ks.len xs) (hd : ∀ b, v.ownBlock = some b → ¬ S b) : SepK (fun q => S q ∨ v.ownBlock = some q) w v ks := by
  rcases ho.2 with ⟨rfl, h0⟩ | ⟨g, cap, cur, rfl, hb, hg, hn, hc, hsz, htk⟩
  · rw [Kids.eq_nil h0]
    exact ⟨none, 0, rfl, Nat.le_refl _, by unfold maxLen; omega, .inl rfl⟩
  · refine ⟨some ⟨g, 0, none⟩, cap, rfl, hn, hc, .inr ⟨g, 0, rfl, .inr rfl, Wr.of_bx hg, (h.elems (fun j u hj => ?_)).sub (fun q _ hq => ⟨.inl hq, fun e => hd g rfl (e ▸ hq)⟩)⟩⟩
    have := World.ownsRow.cells ho (g := g) rfl j u hj
    rw [Addr.add_lit] at this
    exact this

/-- Texts in a block of their own that can be written. -/
def StrsW (S : Nat → Prop) (w : World) (v : Value) (l : List ByteArray) : Prop :=
  ∃ ao cap, v = .slice ao l.length cap ∧ l.length ≤ cap ∧ cap ≤ maxLen ∧ (l = [] ∨ ∃ b off, ao = some ⟨b, off, none⟩ ∧ S b ∧ Wr w b ∧ ∀ j (h : j < l.length), w.cell? ⟨b, off + j, none⟩ = some (.string l[j]))
theorem StrsW.strs {S : Nat → Prop} {w : World} {v : Value} {l : List ByteArray} (h : StrsW S w v l) : Strs S w v l := by
  obtain ⟨ao, cap, hv, hl, hm, hk⟩ := h
  exact ⟨ao, cap, hv, hl, hm, hk.imp id (fun ⟨b, o, e1, e2, _, e3⟩ => ⟨b, o, e1, e2, e3⟩)⟩
theorem StrsW.ag {S : Nat → Prop} {w w' : World} {v : Value} {l : List ByteArray} (h : StrsW S w v l) (hz : w.heap.size ≤ w'.heap.size) (ha : Ag S w w') : StrsW S w' v l := by
  obtain ⟨ao, cap, hv, hl, hm, hk⟩ := h
  exact ⟨ao, cap, hv, hl, hm, hk.imp id (fun ⟨b, o, e1, e2, e4, e3⟩ => ⟨b, o, e1, e2, e4.kept hz (ha b e2 e4.1), fun j hj => ha.cell (p := ⟨b, o + j, none⟩) e2 (e3 j hj)⟩)⟩
theorem StrsW.below {S : Nat → Prop} {w w' : World} {v : Value} {l : List ByteArray} (h : StrsW S w v l) (hb : Below w.heap.size w w') : StrsW S w' v l := h.ag hb.size (Ag.of_below hb)
theorem StrsW.sub {S S' : Nat → Prop} {w : World} {v : Value} {l : List ByteArray} (h : StrsW S w v l) (hs : ∀ q, q < w.heap.size → S q → S' q) : StrsW S' w v l := by
  obtain ⟨ao, cap, hv, hl, hm, hk⟩ := h
  exact ⟨ao, cap, hv, hl, hm, hk.imp id (fun ⟨b, o, e1, e2, e4, e3⟩ => ⟨b, o, e1, hs b e4.1 e2, e4, e3⟩)⟩
theorem StrsW.of_own {w : World} {B : Nat} {e : TypeId} {v : Value} {l : List ByteArray} (h : w.ownsRow B e 1 v l.length (l.map .string)) : StrsW (fun b => B ≤ b ∧ v.ownBlock = some b) w v l := by
  rcases h.2 with ⟨hv, h0⟩ | ⟨g, cap, cur, hv, hb, hg, hn, hc, hsz, htk⟩
  · obtain rfl := List.eq_nil_of_length_eq_zero h0
    rw [hv]
    exact ⟨none, 0, rfl, Nat.le_refl _, by unfold maxLen; omega, .inl rfl⟩
  · refine ⟨_, cap, hv, hn, hc, .inr ⟨g, 0, rfl, ⟨hb, by rw [hv]; rfl⟩, Wr.of_bx hg, fun j hj => ?_⟩⟩
    have h1 := World.ownsRow.cells h (g := g) (by rw [hv]; rfl) j (.string l[j]) (by rw [List.getElem?_map, List.getElem?_eq_getElem hj]; rfl)
    have h2 : (⟨g, 0, none⟩ : Addr).add j = ⟨g, 0 + j, none⟩ := by unfold Addr.add; split <;> simp_all
    rw [h2] at h1
    exact h1

/-- A record all of whose memory is its own. -/
def RecW (S : Nat → Prop) (w : World) (cs : List Value) (r : Rec) : Prop :=
  ∃ kv rv S1 S2, cs = r.cells kv rv ∧ r.hash.length = 32 ∧ (∀ q, S1 q → S q) ∧ (∀ q, S2 q → S q) ∧ (∀ q, S1 q → ¬ S2 q) ∧ SepK S1 w kv r.tree.kids ∧ StrsW S2 w rv r.refs
theorem RecW.rec {S : Nat → Prop} {w : World} {cs : List Value} {r : Rec} (h : RecW S w cs r) : RecAt S w cs r := by
  obtain ⟨kv, rv, S1, S2, e, hh, s1, s2, _, hk, hr⟩ := h
  exact ⟨kv, rv, e, hh, hk.kids.sub (fun q _ hq => s1 q hq), hr.strs.sub (fun q _ hq => s2 q hq)⟩
theorem RecW.ag {S : Nat → Prop} {w w' : World} {cs : List Value} {r : Rec} (h : RecW S w cs r) (hz : w.heap.size ≤ w'.heap.size) (ha : Ag S w w') : RecW S w' cs r := by
  obtain ⟨kv, rv, S1, S2, e, hh, s1, s2, dj, hk, hr⟩ := h
  exact ⟨kv, rv, S1, S2, e, hh, s1, s2, dj, hk.ag hz (ha.mono s1), hr.ag hz (ha.mono s2)⟩
theorem RecW.below {S : Nat → Prop} {w w' : World} {cs : List Value} {r : Rec} (h : RecW S w cs r) (hb : Below w.heap.size w w') : RecW S w' cs r := h.ag hb.size (Ag.of_below hb)
theorem RecW.sub {S S' : Nat → Prop} {w : World} {cs : List Value} {r : Rec} (h : RecW S w cs r) (hs : ∀ q, q < w.heap.size → S q → S' q) : RecW S' w cs r := by
  obtain ⟨kv, rv, S1, S2, e, hh, s1, s2, dj, hk, hr⟩ := h
  exact ⟨kv, rv, fun q => S1 q ∧ q < w.heap.size, fun q => S2 q ∧ q < w.heap.size, e, hh, fun q h => hs q h.2 (s1 q h.1), fun q h => hs q h.2 (s2 q h.1), fun q a b => dj q a.1 b.1, hk.sub (fun q hz hq => ⟨hq, hz⟩), hr.sub (fun q hz hq => ⟨hq, hz⟩)⟩
end Go.Proofs.YtmmmghpimdfleaaGreatDoor.Tr
