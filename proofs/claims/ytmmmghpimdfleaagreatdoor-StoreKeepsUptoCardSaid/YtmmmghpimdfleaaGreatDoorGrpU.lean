/-
  What Order keeps in memory: how many paths each path waits for, who uses a path, the heap of the ready ones, the order so far; and what each step does to it.
  Order over plain lists: what stands between two steps, and what each step does.
-/
import Derived.Test.YtmmmghpimdfleaaGreatDoorGrpS
import Derived.Test.YtmmmghpimdfleaaGreatDoorGrpT
set_option linter.unusedVariables false
set_option linter.unusedSimpArgs false
namespace Go.Proofs.YtmmmghpimdfleaaGreatDoor.St
open Go.RowKit Mem Tr
open Go.Proofs.YtmmmghpimdfleaaGreatDoor.Own
open Go.Proofs.YtmmmghpimdfleaaGreatDoor.Mp (Mp Fv Rg lk View heldR keyedS)
open Go.Proofs.YtmmmghpimdfleaaGreatDoor.Hp (strs upL downL sw HeapB)

theorem nodup_sub {α : Type} [DecidableEq α] : ∀ {l m : List α}, l.Nodup → (∀ a ∈ l, a ∈ m) → l.length ≤ m.length
  | [], _, _, _ => Nat.zero_le _
  | a :: l, m, hn, hs => by
    obtain ⟨h1, h2⟩ := List.nodup_cons.1 hn
    have h3 := nodup_sub (l := l) (m := m.erase a) h2 (fun x hx => (List.mem_erase_of_ne (fun e => h1 (by rw [← e]; exact hx))).2 (hs x (List.mem_cons_of_mem _ hx)))
    have h4 := hs a (List.mem_cons_self)
    have h5 := List.length_erase_of_mem h4
    have h6 := List.length_pos_of_mem h4
    simp only [List.length_cons]
    omega

open Classical in
theorem tight {w : World} {b n : Nat} {f : Fv} (h : Mp w b n f) {ks : List ByteArray} (hk : ∀ k, (f k).isSome = true → k ∈ ks) : Mp w b ks.length f := by
  obtain ⟨D, ⟨es, clock, hb, F, hs, hD⟩, hv⟩ := h
  refine ⟨D, ⟨es, clock, hb, F, ?_, hD⟩, hv⟩
  have h1 := Maps.fit_apart keyedS F
  have h2 : ∀ x ∈ es.toList.map (WideElems.rg Tryz.prog 9 heldR), ∃ s, x.1 = lk s ∧ s ∈ ks := by
    intro x hx
    obtain ⟨e, he, rfl⟩ := List.mem_map.1 hx
    obtain ⟨y, hy⟩ := F.reads e he
    have hkey := WideElems.rd_key hy
    rw [WideElems.rg_of hy]
    obtain ⟨s, _, h4, _⟩ := WideMaps.string_of_keyOf Tryz.underlying9 hkey
    refine ⟨s, h4, hk s ?_⟩
    rw [← (hv s).1, hD]
    refine List.any_eq_true.2 ⟨y, mem_sorted.2 (by rw [← WideElems.rg_of hy]; exact hx), ?_⟩
    rw [h4]
    exact WideAt.sameKey_self (Mp.isLit s)
  have h3 : ((es.toList.map (WideElems.rg Tryz.prog 9 heldR)).map Prod.fst).Nodup := by
    rw [List.nodup_iff_pairwise_ne, List.pairwise_map]
    exact h1
  have h4 := nodup_sub (m := ks.map lk) h3 (fun a ha => by
    obtain ⟨x, hx, rfl⟩ := List.mem_map.1 ha
    obtain ⟨s, e, hs⟩ := h2 x hx
    rw [e]
    exact List.mem_map_of_mem hs)
  simpa using h4

abbrev SRow (w : World) (B : Nat) (v : Value) (xs : List ByteArray) : Prop := w.ownsRow B 9 1 v xs.length (strs xs)
def uv (f : Fv) (q : ByteArray) : Value := (f q).getD (.slice none 0 0)
/-- a row of texts stands in this block -/
def StrRow (w : World) (k : Nat) : Prop := ∃ cur fr, w.heap[k]? = some (.cells cur 9 fr)
theorem strRow_own {w : World} {B n : Nat} {v : Value} {xs : List Value} (h : w.ownsRow B 9 1 v n xs) {k : Nat} (hk : v.ownBlock = some k) : B ≤ k ∧ StrRow w k := by
  refine ⟨(h.lt k hk).1, ?_⟩
  rcases h.2 with ⟨rfl, _⟩ | ⟨g, cap, cur, rfl, _, hg, _⟩
  · simp [Value.ownBlock] at hk
  · obtain rfl : g = k := by simpa [Value.ownBlock] using hk
    exact ⟨_, _, hg⟩

structure KM (w : World) (bw bu bh : Nat) (ks : List ByteArray) (hv ov : Value) (hs out : List ByteArray) (Wf : ByteArray → Nat) (U : ByteArray → List ByteArray) (fu : Fv) (wr : World) : Prop where
  below : Below w.heap.size w wr
  pos : w.heap.size ≤ bw ∧ bw < bu ∧ bu < bh
  waits : ∃ f, Mp wr bw ks.length f ∧ (∀ u, (f u).getD (.int .i64 0) = .int .i64 (Wf u)) ∧ ∀ u, (f u).isSome = true → u ∈ ks
  users : Mp wr bu ks.length fu ∧ (∀ q, SRow wr w.heap.size (uv fu q) (U q)) ∧ (∀ q q' g, q ≠ q' → (uv fu q).ownBlock = some g → (uv fu q').ownBlock ≠ some g) ∧ (∀ q g, (uv fu q).ownBlock = some g → hv.ownBlock ≠ some g ∧ ov.ownBlock ≠ some g) ∧ ∀ u, (fu u).isSome = true → u ∈ ks
  box : Bx wr bh #[hv] 131
  row : SRow wr w.heap.size hv hs
  outs : SRow wr w.heap.size ov out
  apart : ∀ g, hv.ownBlock = some g → ov.ownBlock ≠ some g

/-- what a step may write of what was there -/
def Fr (w : World) (bw bu bh : Nat) (wr w' : World) : Prop := Kp (fun k => k = bw ∨ k = bu ∨ k = bh ∨ (w.heap.size ≤ k ∧ StrRow wr k)) wr w'

section
variable {w wr : World} {bw bu bh : Nat} {ks hs out : List ByteArray} {hv ov : Value} {Wf : ByteArray → Nat} {U : ByteArray → List ByteArray} {fu : Fv}

theorem Fr.rg {b r n cnt : Nat} {f : Fv} {left : ByteArray → Bool} {w' : World} (h : Fr w bw bu bh wr w') (hr : Rg wr b r n f left cnt) (hb : b ≠ bw ∧ b ≠ bu ∧ b ≠ bh) (hx : r ≠ bw ∧ r ≠ bu ∧ r ≠ bh) : Rg w' b r n f left cnt := by
  refine hr.kp h (fun e => ?_) (fun e => ?_)
  · rcases e with e | e | e | ⟨_, cur, fr, e⟩
    · exact hb.1 e
    · exact hb.2.1 e
    · exact hb.2.2 e
    · obtain ⟨o, ho, hc⟩ := hr.mp.notCells
      rw [e] at ho; cases ho; cases hc
  · rcases e with e | e | e | ⟨_, cur, fr, e⟩
    · exact hx.1 e
    · exact hx.2.1 e
    · exact hx.2.2 e
    · obtain ⟨D, l, ⟨es, clock, since, seen, c0, a1, a2, a3, a4, a5, rest⟩, h2, h3⟩ := hr
      rw [e] at a5; cases a5

theorem KM.lts (h : KM w bw bu bh ks hv ov hs out Wf U fu wr) : bw < wr.heap.size ∧ bu < wr.heap.size ∧ bh < wr.heap.size := by
  obtain ⟨f, h1, _⟩ := h.waits
  obtain ⟨h2, _⟩ := h.users
  exact ⟨h1.lt, h2.lt, h.box.lt⟩

/-- nothing that was there has turned -/
theorem KM.grow {w' : World} (h : KM w bw bu bh ks hv ov hs out Wf U fu wr) (hb : Below wr.heap.size wr w') : KM w bw bu bh ks hv ov hs out Wf U fu w' := by
  obtain ⟨h1, h2, ⟨f, f1, f2, f3⟩, ⟨g1, g2, g3, g4, g5⟩, h5, h6, h7, h8⟩ := h
  exact ⟨h1.trans (hb.mono h1.size), h2, ⟨f, f1.below hb, f2, f3⟩, ⟨g1.below hb, fun q => Copy.own_below (g2 q) hb, g3, g4, g5⟩, h5.below hb, Copy.own_below h6 hb, Copy.own_below h7 hb, h8⟩

theorem KM.wait_look (h : KM w bw bu bh ks hv ov hs out Wf U fu wr) {u : ByteArray} (hu : u.size ≤ maxLen) : (Instr.lookup 67 (.map (some bw)) (.string u) false).run Tryz.prog wr = .ok (.int .i64 (Wf u)) wr := by
  obtain ⟨f, f1, f2, f3⟩ := h.waits
  rw [f1.look (t := 67) Tryz.underlying67 (z := .int .i64 0) (by kernel_rfl) hu, f2]
theorem KM.user_look (h : KM w bw bu bh ks hv ov hs out Wf U fu wr) {u : ByteArray} (hu : u.size ≤ maxLen) : (Instr.lookup 129 (.map (some bu)) (.string u) false).run Tryz.prog wr = .ok (uv fu u) wr := by
  obtain ⟨g1, g2, g3, g4, g5⟩ := h.users
  exact g1.look (t := 129) Tryz.underlying129 (z := .slice none 0 0) (by kernel_rfl) hu

/-- 'waits[u] = n' -/
theorem KM.wait_set (h : KM w bw bu bh ks hv ov hs out Wf U fu wr) {u : ByteArray} (hu : u.size ≤ maxLen) (hk : u ∈ ks) (hks : ks.length < maxLen) (n : Nat) :
    ∃ w1, (Instr.mapUpdate 67 (.map (some bw)) (.string u) (.int .i64 n)).run Tryz.prog wr = .ok () w1 ∧ KM w bw bu bh ks hv ov hs out (fun p => if p = u then n else Wf p) U fu w1 ∧ Fr w bw bu bh wr w1 := by
  obtain ⟨h1, h2, ⟨f, f1, f2, f3⟩, ⟨g1, g2, g3, g4, g5⟩, h5, h6, h7, h8⟩ := h
  obtain ⟨w1, hrun, m1, hg, hsz⟩ := f1.store (t := 67) Tryz.underlying67 hks hu (.int .i64 n)
  refine ⟨w1, hrun, ⟨h1.grown hg h1.size (fun k e => by cases e; exact h2.1), h2, ⟨_, tight m1 (ks := ks) ?_, ?_, ?_⟩, ⟨g1.kept hg (fun e => by cases e; omega), fun q => (g2 q).kept hg (.inr (fun e => f1.notRow (g2 q) e)), g3, g4, g5⟩, h5.kept (hg.block bh h5.lt (fun e => by cases e; omega)), h6.kept hg (.inr (fun e => f1.notRow h6 e)), h7.kept hg (.inr (fun e => f1.notRow h7 e)), h8⟩, Kp.of_grown hg (fun r e _ => .inl (Option.some.inj e).symm)⟩
  · intro k hk'
    unfold Mp.put at hk'
    by_cases e : k = u
    · subst e; exact hk
    · rw [if_neg e] at hk'; exact f3 k hk'
  · intro p
    unfold Mp.put
    by_cases e : p = u
    · rw [if_pos e, if_pos e]; rfl
    · rw [if_neg e, if_neg e]; exact f2 p
  · intro k hk'
    unfold Mp.put at hk'
    by_cases e : k = u
    · subst e; exact hk
    · rw [if_neg e] at hk'; exact f3 k hk'

/-- 'users[q] = append(users[q], u)' -/
theorem KM.user_add (h : KM w bw bu bh ks hv ov hs out Wf U fu wr) {q u : ByteArray} (hq : q.size ≤ maxLen) (hk : q ∈ ks) (hks : ks.length < maxLen) (hU : (U q).length < 1099511627776) :
    ∃ W2 g cap W3, (Instr.lookup 129 (.map (some bu)) (.string q) false).run Tryz.prog wr = .ok (uv fu q) wr ∧
      (Builtin.append_ #[27, 27] 27 #[uv fu q, .slice (some ⟨wr.heap.size, 0, none⟩) 1 1]).run Tryz.prog (wr.alloc (.cells #[.string u] 9)) = .ok (.slice (some ⟨g, 0, none⟩) ((U q).length + 1) cap) W2 ∧
      (Instr.mapUpdate 129 (.map (some bu)) (.string q) (.slice (some ⟨g, 0, none⟩) ((U q).length + 1) cap)).run Tryz.prog W2 = .ok () W3 ∧
      KM w bw bu bh ks hv ov hs out Wf (fun p => if p = q then U q ++ [u] else U p) (Mp.put fu q (.slice (some ⟨g, 0, none⟩) ((U q).length + 1) cap)) W3 ∧ Fr w bw bu bh wr W3 := by
  have hlts := h.lts
  obtain ⟨h1, h2, ⟨f, f1, f2, f3⟩, ⟨g1, g2, g3, g4, g5⟩, h5, h6, h7, h8⟩ := h
  obtain ⟨i0, hi, hz0, hz1, hz2⟩ := info_parts Make.infoStr
  have hown := (g2 q).alloc (.cells #[.string u] 9)
  obtain ⟨g, cap, W2, hap, own2, hg2, hat, hgl⟩ := run_append_lies (P := Tryz.prog) (wr.alloc (.cells #[.string u] 9)) 27 27 w.heap.size 9 i0 (.string ⟨#[]⟩) 1 16 Tryz.underlying27 hi hz0 hz1 hz2 rfl (by decide) _ _ _ hown ⟨wr.heap.size, 0, none⟩ 1 1 [.string u] rfl (World.news_of_block (cs := #[.string u]) (t := 9) (fr := (0, 0)) (heap_alloc_new wr _)) (by simp [Value.oneCell']) (by decide) (by unfold maxLen; omega) (by omega) (by simp; have := h1.size; omega) (wr.heap.size + 1) (by simp)
  have kp2 : Kp (fun k => (uv fu q).ownBlock = some k) wr W2 := ((Kp.refl _ wr).alloc _).then (Kp.of_grown hg2 (fun r e _ => e))
  have hs2 := kp2.size
  have mu2 : Mp W2 bu ks.length fu := g1.kp kp2 (fun e => g1.notRow (g2 q) e)
  obtain ⟨W3, hrun, m3, hg3, hsz⟩ := mu2.store (t := 129) Tryz.underlying129 hks hq (.slice (some ⟨g, 0, none⟩) ((U q).length + 1) cap)
  have kp3 : Kp (fun k => k = bu) W2 W3 := Kp.of_grown hg3 (fun r e _ => (Option.some.inj e).symm)
  have kpA : Kp (fun k => k = bu ∨ (uv fu q).ownBlock = some k) wr W3 := kp2.trans kp3 (fun _ _ e => .inr e) (fun _ _ e => .inl e)
  have own3 : W3.ownsRow w.heap.size 9 1 (.slice (some ⟨g, 0, none⟩) ((U q).length + 1) cap) ((U q).length + 1) (strs (U q ++ [u])) := by
    have e : strs (U q ++ [u]) = strs (U q) ++ [.string u] := by simp [strs]
    rw [e]
    exact own2.kept hg3 (.inr (fun e => mu2.notRow own2 e))
  have gnew : (uv fu q).ownBlock = some g ∨ wr.heap.size ≤ g := hat.imp id (fun e => by omega)
  have hput : ∀ p, uv (Mp.put fu q (.slice (some ⟨g, 0, none⟩) ((U q).length + 1) cap)) p = if p = q then .slice (some ⟨g, 0, none⟩) ((U q).length + 1) cap else uv fu p := by
    intro p
    unfold uv Mp.put
    by_cases e : p = q
    · rw [if_pos e, if_pos e]; rfl
    · rw [if_neg e, if_neg e]
  have rowk : ∀ {B : Nat} {v : Value} {n : Nat} {xs : List Value}, wr.ownsRow B 9 1 v n xs → (∀ k, v.ownBlock = some k → (uv fu q).ownBlock ≠ some k) → W3.ownsRow B 9 1 v n xs := fun hr hd => Tab.own_kp hr kpA (fun k hk e => by
    rcases e with e | e
    · subst e; exact g1.notRow hr hk
    · exact hd k hk e)
  refine ⟨W2, g, cap, W3, g1.look (t := 129) Tryz.underlying129 (z := .slice none 0 0) (by kernel_rfl) hq, hap, hrun, ⟨?_, h2, ⟨f, f1.kp kpA (fun e => ?_), f2, f3⟩, ⟨tight m3 (ks := ks) ?_, ?_, ?_, ?_, ?_⟩, h5.kp kpA (fun e => ?_), rowk h6 (fun k hk e => (g4 q k e).1 hk), rowk h7 (fun k hk e => (g4 q k e).2 hk), h8⟩, ?_⟩
  · exact h1.trans (kpA.below h1.size (fun i hi e => by
      rcases e with e | e
      · omega
      · have := ((g2 q).lt i e).1; omega))
  · rcases e with e | e
    · omega
    · exact f1.notRow (g2 q) e
  · intro k hk'
    unfold Mp.put at hk'
    by_cases e : k = q
    · subst e; exact hk
    · rw [if_neg e] at hk'; exact g5 k hk'
  · intro p
    rw [hput]
    by_cases e : p = q
    · subst e
      rw [if_pos rfl, if_pos rfl]
      unfold SRow
      rw [List.length_append]
      exact own3
    · rw [if_neg e, if_neg e]
      exact rowk (g2 p) (fun k hk e' => g3 p q k e hk e')
  · intro p p' k hne hp
    rw [hput] at hp ⊢
    by_cases e : p = q
    · rw [if_pos e] at hp
      have hgk : g = k := by simpa [Value.ownBlock] using hp
      subst hgk
      rw [if_neg (fun e' => hne (e.trans e'.symm))]
      rcases gnew with e1 | e1
      · exact g3 q p' g (fun e' => hne (e.trans e')) e1
      · intro e2
        have := ((g2 p').lt g e2).2
        omega
    · rw [if_neg e] at hp
      by_cases e2 : p' = q
      · rw [if_pos e2]
        intro e3
        have hgk : g = k := by simpa [Value.ownBlock] using e3
        subst hgk
        rcases gnew with e1 | e1
        · exact g3 p q g e hp e1
        · have := ((g2 p).lt g hp).2
          omega
      · rw [if_neg e2]
        exact g3 p p' k hne hp
  · intro p k hp
    rw [hput] at hp
    by_cases e : p = q
    · rw [if_pos e] at hp
      have hgk : g = k := by simpa [Value.ownBlock] using hp
      subst hgk
      rcases gnew with e1 | e1
      · exact g4 q g e1
      · exact ⟨fun e2 => by have := (h6.lt g e2).2; omega, fun e2 => by have := (h7.lt g e2).2; omega⟩
    · rw [if_neg e] at hp
      exact g4 p k hp
  · intro k hk'
    unfold Mp.put at hk'
    by_cases e : k = q
    · subst e; exact hk
    · rw [if_neg e] at hk'; exact g5 k hk'
  · rcases e with e | e
    · omega
    · exact Tab.own_box (g2 q) h5 (by decide) e
  · exact kpA.mono (fun i hi e => by
      rcases e with e | e
      · exact .inr (.inl e)
      · exact .inr (.inr (.inr (strRow_own (g2 q) e))))

/-- the heap's row has turned, and the box -/
theorem KM.heap_step {w' : World} {hv' : Value} {hs' : List ByteArray} {g : Nat} (h : KM w bw bu bh ks hv ov hs out Wf U fu wr) (hk : Kp (fun k => k = bh ∨ hv.ownBlock = some k) wr w') (hx : Bx w' bh #[hv'] 131)
    (hr : w'.ownsRow 0 9 1 hv' hs'.length (strs hs')) (hb : hv'.ownBlock = some g) (hat : hv.ownBlock = some g ∨ wr.heap.size ≤ g) : KM w bw bu bh ks hv' ov hs' out Wf U fu w' ∧ Fr w bw bu bh wr w' := by
  have hlts := h.lts
  obtain ⟨h1, h2, ⟨f, f1, f2, f3⟩, ⟨g1, g2, g3, g4, g5⟩, h5, h6, h7, h8⟩ := h
  have rowk : ∀ {B : Nat} {v : Value} {n : Nat} {xs : List Value}, wr.ownsRow B 9 1 v n xs → (∀ k, v.ownBlock = some k → hv.ownBlock ≠ some k) → w'.ownsRow B 9 1 v n xs := fun hr hd => Tab.own_kp hr hk (fun k hk' e => by
    rcases e with e | e
    · rw [e] at hk'; exact Tab.own_box hr h5 (by decide) hk'
    · exact hd k hk' e)
  have hB : w.heap.size ≤ g := by
    rcases hat with e | e
    · exact (h6.lt g e).1
    · exact Nat.le_trans h1.size e
  refine ⟨⟨h1.trans (hk.below h1.size (fun i hi e => ?_)), h2, ⟨f, f1.kp hk (fun e => ?_), f2, f3⟩, ⟨g1.kp hk (fun e => ?_), fun q => rowk (g2 q) (fun k hk' e => (g4 q k hk').1 e), g3, fun q k hq => ⟨fun e => ?_, (g4 q k hq).2⟩, g5⟩, hx, ?_, rowk h7 (fun k hk' e => h8 k e hk'), fun k hk' e => ?_⟩, hk.mono (fun i hi e => ?_)⟩
  · rcases e with e | e
    · omega
    · have := (h6.lt i e).1; omega
  · rcases e with e | e
    · omega
    · exact f1.notRow h6 e
  · rcases e with e | e
    · omega
    · exact g1.notRow h6 e
  · rw [hb] at e
    obtain rfl := Option.some.inj e
    rcases hat with e1 | e1
    · exact (g4 q g hq).1 e1
    · have := ((g2 q).lt g hq).2; omega
  · refine ⟨hr.1, hr.2.imp id ?_⟩
    rintro ⟨g', cap, cur, rfl, h0, r⟩
    obtain rfl : g' = g := by simpa [Value.ownBlock] using hb
    exact ⟨g', cap, cur, rfl, hB, r⟩
  · rw [hb] at hk'
    obtain rfl := Option.some.inj hk'
    rcases hat with e1 | e1
    · exact h8 g e1 e
    · have := (h7.lt g e).2; omega
  · rcases e with e | e
    · exact .inr (.inr (.inl e))
    · exact .inr (.inr (.inr (strRow_own h6 e)))

/-- 'out = append(out, p)' -/
theorem KM.out_add (h : KM w bw bu bh ks hv ov hs out Wf U fu wr) (u : ByteArray) (hU : out.length < 1099511627776) :
    ∃ g cap W2, (Builtin.append_ #[27, 27] 27 #[ov, .slice (some ⟨wr.heap.size, 0, none⟩) 1 1]).run Tryz.prog (wr.alloc (.cells #[.string u] 9)) = .ok (.slice (some ⟨g, 0, none⟩) (out.length + 1) cap) W2 ∧
      KM w bw bu bh ks hv (.slice (some ⟨g, 0, none⟩) (out.length + 1) cap) hs (out ++ [u]) Wf U fu W2 := by
  have hlts := h.lts
  obtain ⟨h1, h2, ⟨f, f1, f2, f3⟩, ⟨g1, g2, g3, g4, g5⟩, h5, h6, h7, h8⟩ := h
  obtain ⟨i0, hi, hz0, hz1, hz2⟩ := info_parts Make.infoStr
  have hown := h7.alloc (.cells #[.string u] 9)
  obtain ⟨g, cap, W2, hap, own2, hg2, hat, hgl⟩ := run_append_lies (P := Tryz.prog) (wr.alloc (.cells #[.string u] 9)) 27 27 w.heap.size 9 i0 (.string ⟨#[]⟩) 1 16 Tryz.underlying27 hi hz0 hz1 hz2 rfl (by decide) _ _ _ hown ⟨wr.heap.size, 0, none⟩ 1 1 [.string u] rfl (World.news_of_block (cs := #[.string u]) (t := 9) (fr := (0, 0)) (heap_alloc_new wr _)) (by simp [Value.oneCell']) (by decide) (by unfold maxLen; omega) (by omega) (by simp; have := h1.size; omega) (wr.heap.size + 1) (by simp)
  have kp2 : Kp (fun k => ov.ownBlock = some k) wr W2 := ((Kp.refl _ wr).alloc _).then (Kp.of_grown hg2 (fun r e _ => e))
  have gnew : ov.ownBlock = some g ∨ wr.heap.size ≤ g := hat.imp id (fun e => by omega)
  refine ⟨g, cap, W2, hap, ⟨h1.trans (kp2.below h1.size (fun i hi e => by have := (h7.lt i e).1; omega)), h2, ⟨f, f1.kp kp2 (fun e => f1.notRow h7 e), f2, f3⟩, ⟨g1.kp kp2 (fun e => g1.notRow h7 e), fun q => Tab.own_kp (g2 q) kp2 (fun k hk e => (g4 q k hk).2 e), g3, fun q k hq => ⟨(g4 q k hq).1, fun e => ?_⟩, g5⟩, h5.kp kp2 (fun e => Tab.own_box h7 h5 (by decide) e), Tab.own_kp h6 kp2 (fun k hk e => h8 k hk e), ?_, fun k hk e => ?_⟩⟩
  · have hgk : g = k := by simpa [Value.ownBlock] using e
    subst hgk
    rcases gnew with e1 | e1
    · exact (g4 q g hq).2 e1
    · have := ((g2 q).lt g hq).2; omega
  · have e : strs (out ++ [u]) = strs out ++ [.string u] := by simp [strs]
    unfold SRow
    rw [e, List.length_append]
    exact own2
  · have hgk : g = k := by simpa [Value.ownBlock] using e
    subst hgk
    rcases gnew with e1 | e1
    · exact h8 g hk e1
    · have := (h6.lt g hk).2; omega
end
end Go.Proofs.YtmmmghpimdfleaaGreatDoor.St

set_option linter.unusedVariables false
namespace Go.Proofs.YtmmmghpimdfleaaGreatDoor.St
open Mem Tr
open Classical
open Go.Proofs.YtmmmghpimdfleaaGreatDoor.Hp (strs upL downL sw HeapB at' le push_heap pop_heap)

def refsOf (gs : Got) (u : ByteArray) : List ByteArray := match gs.find? (fun x => decide (x.1.path = u)) with | some x => x.1.refs | none => []
def deps (gs : Got) (u : ByteArray) : List ByteArray := (refsOf gs u).filter fun q => decide (q ≠ u)
def cn (u : ByteArray) (l : List ByteArray) : Nat := l.countP fun x => decide (x = u)
theorem cn_nil (u : ByteArray) : cn u [] = 0 := rfl
theorem cn_cons (u v : ByteArray) (l : List ByteArray) : cn u (v :: l) = cn u l + if v = u then 1 else 0 := by
  unfold cn; rw [List.countP_cons]; simp
theorem cn_snoc (u v : ByteArray) (l : List ByteArray) : cn u (l ++ [v]) = cn u l + if v = u then 1 else 0 := by
  unfold cn; rw [List.countP_append, List.countP_cons]; simp
theorem cn_pos {u : ByteArray} {l : List ByteArray} : 0 < cn u l ↔ u ∈ l := by
  unfold cn; rw [List.countP_pos_iff]; simp
theorem cn_zero {u : ByteArray} {l : List ByteArray} : cn u l = 0 ↔ u ∉ l := by
  rw [← cn_pos]; omega
theorem cn_le (u : ByteArray) (l : List ByteArray) : cn u l ≤ l.length := List.countP_le_length
/-- those that stand not in out any more: one less by p -/
theorem filter_out (l out : List ByteArray) (p : ByteArray) (hp : p ∉ out) : (l.filter fun q => decide (q ∉ out)).length = (l.filter fun q => decide (q ∉ out ++ [p])).length + cn p l := by
  induction l with
  | nil => rfl
  | cons q l ih =>
    rw [cn_cons]
    by_cases e : q = p
    · subst e
      rw [List.filter_cons_of_pos (by simpa using hp), List.filter_cons_of_neg (by simp), if_pos rfl, List.length_cons, ih]
      omega
    · rw [if_neg e]
      by_cases h : q ∈ out
      · rw [List.filter_cons_of_neg (by simpa using h), List.filter_cons_of_neg (by simp [h]), ih]
        omega
      · rw [List.filter_cons_of_pos (by simpa using h), List.filter_cons_of_pos (by simp [h, e]), List.length_cons, List.length_cons, ih]
        omega
theorem filter_zero {l out : List ByteArray} : (l.filter fun q => decide (q ∉ out)).length = 0 ↔ ∀ q ∈ l, q ∈ out := by
  rw [List.length_eq_zero_iff, List.filter_eq_nil_iff]
  constructor
  · intro h q hq; have := h q hq; simpa using this
  · intro h q hq; simpa using h q hq

/-- may come behind out -/
def ready (gs : Got) (out : List ByteArray) (u : ByteArray) : Prop := u ∈ paths gs ∧ u ∉ out ∧ ∀ q ∈ deps gs u, q ∈ out
/-- each path of the order may come there, and is the least that may -/
def OrdSub (gs : Got) (out : List ByteArray) : Prop := ∀ i (h : i < out.length), ready gs (out.take i) out[i] ∧ ∀ u, ready gs (out.take i) u → le out[i] u
theorem OrdSub.snoc {gs : Got} {out : List ByteArray} {p : ByteArray} (h : OrdSub gs out) (hp : ready gs out p) (hl : ∀ u, ready gs out u → le p u) : OrdSub gs (out ++ [p]) := by
  intro i hi
  rw [List.length_append] at hi
  simp at hi
  by_cases e : i < out.length
  · rw [List.getElem_append_left e, List.take_append_of_le_length (by omega)]
    exact h i e
  · obtain rfl : i = out.length := by omega
    rw [List.getElem_append_right (Nat.le_refl _), List.take_left]
    simpa using ⟨hp, hl⟩
theorem OrdSub.closed {gs : Got} {out : List ByteArray} (h : OrdSub gs out) : ∀ v ∈ out, ∀ q ∈ deps gs v, q ∈ out := by
  intro v hv q hq
  obtain ⟨i, hi, rfl⟩ := List.getElem_of_mem hv
  exact List.mem_of_mem_take ((h i hi).1.2.2 q hq)
theorem OrdSub.sub {gs : Got} {out : List ByteArray} (h : OrdSub gs out) : ∀ v ∈ out, v ∈ paths gs := by
  intro v hv
  obtain ⟨i, hi, rfl⟩ := List.getElem_of_mem hv
  exact (h i hi).1.1

/-! ### the first loop -/
structure P1 (gs : Got) (done hs : List ByteArray) (W : ByteArray → Nat) (U : ByteArray → List ByteArray) : Prop where
  nodup : hs.Nodup
  heap : HeapB hs.length hs
  mem : ∀ p, p ∈ hs ↔ p ∈ done ∧ deps gs p = []
  w : ∀ u, W u = if u ∈ done then (deps gs u).length else 0
  u : ∀ q p, cn p (U q) = if p ∈ done then cn q (deps gs p) else 0
  sub : ∀ p ∈ done, p ∈ paths gs
structure P1i (gs : Got) (done : List ByteArray) (cur : ByteArray) (l hs : List ByteArray) (W : ByteArray → Nat) (U : ByteArray → List ByteArray) : Prop where
  nodup : hs.Nodup
  heap : HeapB hs.length hs
  mem : ∀ p, p ∈ hs ↔ p ∈ done ∧ deps gs p = []
  w : ∀ u, W u = if u = cur then (l.filter fun q => decide (q ≠ cur)).length else if u ∈ done then (deps gs u).length else 0
  u : ∀ q p, cn p (U q) = if p = cur then cn q (l.filter fun q => decide (q ≠ cur)) else if p ∈ done then cn q (deps gs p) else 0
  sub : ∀ p ∈ done, p ∈ paths gs
  cur : cur ∉ done
variable {gs : Got} {done hs : List ByteArray} {W : ByteArray → Nat} {U : ByteArray → List ByteArray}
theorem P1.start : P1 gs [] [] (fun _ => 0) (fun _ => []) :=
  ⟨List.nodup_nil, fun i h1 h2 => absurd h2 (by simp), fun p => by simp, fun u => by simp, fun q p => by simp [cn_nil], fun p h => absurd h (by simp)⟩
theorem P1.enter (h : P1 gs done hs W U) {cur : ByteArray} (hc : cur ∉ done) : P1i gs done cur [] hs W U := by
  refine ⟨h.nodup, h.heap, h.mem, fun u => ?_, fun q p => ?_, h.sub, hc⟩
  · by_cases e : u = cur
    · subst e; rw [h.w, if_neg hc, if_pos rfl]; rfl
    · rw [if_neg e, h.w]
  · by_cases e : p = cur
    · subst e; rw [h.u, if_neg hc, if_pos rfl]; rfl
    · rw [if_neg e, h.u]
theorem P1i.skip {cur : ByteArray} {l : List ByteArray} (h : P1i gs done cur l hs W U) : P1i gs done cur (l ++ [cur]) hs W U := by
  have e : (l ++ [cur]).filter (fun q => decide (q ≠ cur)) = l.filter fun q => decide (q ≠ cur) := by rw [List.filter_append]; simp
  exact ⟨h.nodup, h.heap, h.mem, fun u => by rw [e]; exact h.w u, fun q p => by rw [e]; exact h.u q p, h.sub, h.cur⟩
theorem P1i.add {cur q : ByteArray} {l : List ByteArray} (h : P1i gs done cur l hs W U) (hq : q ≠ cur) : P1i gs done cur (l ++ [q]) hs (fun p => if p = cur then W cur + 1 else W p) (fun p => if p = q then U q ++ [cur] else U p) := by
  have e : (l ++ [q]).filter (fun q => decide (q ≠ cur)) = (l.filter fun q => decide (q ≠ cur)) ++ [q] := by rw [List.filter_append]; simp [hq]
  refine ⟨h.nodup, h.heap, h.mem, fun u => ?_, fun z p => ?_, h.sub, h.cur⟩
  · by_cases e1 : u = cur
    · subst e1
      show (if u = u then W u + 1 else W u) = _
      rw [if_pos rfl, if_pos rfl, e, h.w u, if_pos rfl, List.length_append]; rfl
    · show (if u = cur then W cur + 1 else W u) = _
      rw [if_neg e1, if_neg e1, h.w u, if_neg e1]
  · show cn p (if z = q then U q ++ [cur] else U z) = _
    by_cases e2 : z = q
    · subst e2
      rw [if_pos rfl, cn_snoc, h.u z p]
      by_cases e1 : p = cur
      · subst e1
        rw [if_pos rfl, if_pos rfl, if_pos rfl, e, cn_snoc, if_pos rfl]
      · rw [if_neg e1, if_neg (show ¬ cur = p from fun e' => e1 e'.symm), if_neg e1]; rfl
    · rw [if_neg e2, h.u z p]
      by_cases e1 : p = cur
      · subst e1
        rw [if_pos rfl, if_pos rfl, e, cn_snoc, if_neg (fun e' => e2 e'.symm)]; omega
      · rw [if_neg e1, if_neg e1]
theorem P1i.leave {cur : ByteArray} {l hs' : List ByteArray} (h : P1i gs done cur l hs W U) (hl : refsOf gs cur = l) (hc : cur ∈ paths gs)
    (hh : W cur = 0 ∧ hs' = upL (hs ++ [cur]) hs.length ∨ W cur ≠ 0 ∧ hs' = hs) : P1 gs (done ++ [cur]) hs' W U := by
  have hd : deps gs cur = l.filter fun q => decide (q ≠ cur) := by unfold deps; rw [hl]
  have hwc := h.w cur
  rw [if_pos rfl, ← hd] at hwc
  have hmem : ∀ p, (p ∈ done ++ [cur] ∧ deps gs p = []) ↔ (p ∈ done ∧ deps gs p = []) ∨ (p = cur ∧ deps gs cur = []) := by
    intro p
    rw [List.mem_append]
    constructor
    · rintro ⟨h1 | h1, h2⟩
      · exact .inl ⟨h1, h2⟩
      · simp at h1; subst h1; exact .inr ⟨rfl, h2⟩
    · rintro (⟨h1, h2⟩ | ⟨rfl, h2⟩)
      · exact ⟨.inl h1, h2⟩
      · exact ⟨.inr (by simp), h2⟩
  have hw : ∀ u, W u = if u ∈ done ++ [cur] then (deps gs u).length else 0 := by
    intro u
    by_cases e : u = cur
    · subst e; rw [if_pos (by simp), hwc]
    · rw [h.w u, if_neg e]; simp [e]
  have hu : ∀ q p, cn p (U q) = if p ∈ done ++ [cur] then cn q (deps gs p) else 0 := by
    intro q p
    by_cases e : p = cur
    · subst e; rw [h.u q p, if_pos rfl, if_pos (by simp), hd]
    · rw [h.u q p, if_neg e]; simp [e]
  have hsub : ∀ p ∈ done ++ [cur], p ∈ paths gs := by
    intro p hp
    rcases List.mem_append.1 hp with h1 | h1
    · exact h.sub p h1
    · simp at h1; subst h1; exact hc
  rcases hh with ⟨h0, rfl⟩ | ⟨h0, rfl⟩
  · have hdn : deps gs cur = [] := by rw [← List.length_eq_zero_iff, ← hwc]; exact h0
    have hcn : cur ∉ hs := fun hin => h.cur ((h.mem cur).1 hin).1
    obtain ⟨a1, a2, a3⟩ := push_heap hs cur hs.length rfl h.heap
    refine ⟨a2.nodup_iff.2 (List.nodup_cons.2 ⟨hcn, h.nodup⟩), by rw [a3]; exact a1, fun p => ?_, hw, hu, hsub⟩
    rw [a2.mem_iff, List.mem_cons, hmem, h.mem p]
    constructor
    · rintro (rfl | h1)
      · exact .inr ⟨rfl, hdn⟩
      · exact .inl h1
    · rintro (h1 | ⟨rfl, _⟩)
      · exact .inr h1
      · exact .inl rfl
  · refine ⟨h.nodup, h.heap, fun p => ?_, hw, hu, hsub⟩
    rw [hmem, h.mem p]
    constructor
    · exact .inl
    · rintro (h1 | ⟨_, h1⟩)
      · exact h1
      · exact absurd (by rw [hwc, h1]; rfl) h0

/-! ### the second loop -/
structure KI (gs : Got) (out hs : List ByteArray) (W : ByteArray → Nat) (U : ByteArray → List ByteArray) : Prop where
  sub : OrdSub gs out
  onodup : out.Nodup
  nodup : hs.Nodup
  heap : HeapB hs.length hs
  mem : ∀ p, p ∈ hs ↔ ready gs out p
  w : ∀ u ∈ paths gs, W u = ((deps gs u).filter fun q => decide (q ∉ out)).length
  u : ∀ q p, cn p (U q) = if p ∈ paths gs then cn q (deps gs p) else 0
structure KJ (gs : Got) (out l hs : List ByteArray) (W : ByteArray → Nat) (U : ByteArray → List ByteArray) : Prop where
  sub : OrdSub gs out
  onodup : out.Nodup
  nodup : hs.Nodup
  heap : HeapB hs.length hs
  mem : ∀ u, u ∈ hs ↔ ready gs out u ∧ cn u l = 0
  w : ∀ u ∈ paths gs, W u = ((deps gs u).filter fun q => decide (q ∉ out)).length + cn u l
  u : ∀ q p, cn p (U q) = if p ∈ paths gs then cn q (deps gs p) else 0
  l : ∀ v ∈ l, v ∈ paths gs ∧ v ∉ out
theorem P1.over (h : P1 gs done hs W U) (hd : ∀ p ∈ paths gs, p ∈ done) : KI gs [] hs W U := by
  refine ⟨fun i hi => absurd hi (by simp), List.nodup_nil, h.nodup, h.heap, fun p => ?_, fun u hu => ?_, fun q p => ?_⟩
  · rw [h.mem p]
    unfold ready
    constructor
    · rintro ⟨h1, h2⟩
      exact ⟨h.sub p h1, by simp, by rw [h2]; simp⟩
    · rintro ⟨h1, _, h3⟩
      refine ⟨hd p h1, ?_⟩
      cases hdp : deps gs p with
      | nil => rfl
      | cons a t => rw [hdp] at h3; exact absurd (h3 a (by simp)) (by simp)
  · rw [h.w u, if_pos (hd u hu)]
    congr 1
    symm
    rw [List.filter_eq_self]
    simp
  · rw [h.u q p]
    by_cases e : p ∈ paths gs
    · rw [if_pos e, if_pos (hd p e)]
    · rw [if_neg e, if_neg (fun h1 => e (h.sub p h1))]
variable {out : List ByteArray}
theorem KI.pop {n : Nat} {D : List ByteArray} (h : KI gs out hs W U) (hn : hs.length = n + 1) (hD : downL (sw hs 0 n) 0 n = D) :
    D.length = n + 1 ∧ (D.take n).length = n ∧ at' D n ∉ out ∧ at' D n ∈ paths gs ∧ KJ gs (out ++ [at' D n]) (U (at' D n)) (D.take n) W U := by
  obtain ⟨d1, d2, d3, d4, d5⟩ := pop_heap hs n hn (by rw [← hn]; exact h.heap) D hD
  have hl : (D.take n).length = n := by rw [List.length_take]; omega
  rw [← d2] at d4 d5
  obtain ⟨p, hp⟩ : ∃ p, at' D n = p := ⟨_, rfl⟩
  rw [hp] at d4 d5 ⊢
  have hpin : p ∈ hs := d4.mem_iff.2 (by simp)
  have hready := (h.mem p).1 hpin
  have hnd := List.nodup_cons.1 (d4.nodup_iff.1 h.nodup)
  refine ⟨d1, hl, hready.2.1, hready.1, ⟨h.sub.snoc hready (fun u hu => d5 u ((h.mem u).2 hu)), ?_, hnd.2, by rw [hl]; exact d3, fun u => ?_, fun u hu => ?_, h.u, fun v hv => ?_⟩⟩
  · rw [List.nodup_append]
    refine ⟨h.onodup, by simp, ?_⟩
    intro a ha b hb
    simp at hb
    subst hb
    rintro rfl
    exact hready.2.1 ha
  · have h1 : u ∈ D.take n ↔ u ∈ hs ∧ u ≠ p := by
      rw [d4.mem_iff, List.mem_cons]
      constructor
      · intro hu; exact ⟨.inr hu, fun e => hnd.1 (e ▸ hu)⟩
      · rintro ⟨hu | hu, hne⟩
        · exact absurd hu hne
        · exact hu
    rw [h1, h.mem u, h.u p u]
    unfold ready
    constructor
    · rintro ⟨⟨a1, a2, a3⟩, a4⟩
      refine ⟨⟨a1, by simp [a2, a4], fun q hq => List.mem_append_left _ (a3 q hq)⟩, ?_⟩
      rw [if_pos a1, cn_zero]
      exact fun hin => hready.2.1 (a3 p hin)
    · rintro ⟨⟨a1, a2, a3⟩, a4⟩
      rw [if_pos a1, cn_zero] at a4
      rw [List.mem_append] at a2
      refine ⟨⟨a1, fun e => a2 (.inl e), fun q hq => ?_⟩, fun e => a2 (.inr (by simp [e]))⟩
      rcases List.mem_append.1 (a3 q hq) with h2 | h2
      · exact h2
      · simp at h2; subst h2; exact absurd hq a4
  · rw [h.w u hu, filter_out _ _ p hready.2.1, h.u p u, if_pos hu]
  · have h1 : 0 < cn v (U p) := cn_pos.2 hv
    rw [h.u p v] at h1
    by_cases e : v ∈ paths gs
    · refine ⟨e, fun hin => ?_⟩
      rw [if_pos e, cn_pos] at h1
      rcases List.mem_append.1 hin with h2 | h2
      · exact hready.2.1 (h.sub.closed v h2 p h1)
      · simp at h2
        subst h2
        unfold deps at h1
        simp at h1
    · rw [if_neg e] at h1; omega
theorem KJ.step {v : ByteArray} {l hs' : List ByteArray} (h : KJ gs out (v :: l) hs W U) : 0 < W v ∧
    ((W v - 1 = 0 ∧ hs' = upL (hs ++ [v]) hs.length ∨ W v - 1 ≠ 0 ∧ hs' = hs) → KJ gs out l hs' (fun p => if p = v then W v - 1 else W p) U) := by
  have hv := h.l v (by simp)
  have hwv := h.w v hv.1
  rw [cn_cons, if_pos rfl] at hwv
  refine ⟨by omega, fun hh => ?_⟩
  have hw : ∀ u ∈ paths gs, (if u = v then W v - 1 else W u) = ((deps gs u).filter fun q => decide (q ∉ out)).length + cn u l := by
    intro u hu
    by_cases e : u = v
    · subst e; rw [if_pos rfl]; omega
    · rw [if_neg e, h.w u hu, cn_cons, if_neg (fun e' => e e'.symm)]; omega
  have hother : ∀ u, u ≠ v → (u ∈ hs ↔ ready gs out u ∧ cn u l = 0) := by
    intro u e
    rw [h.mem u, cn_cons, if_neg (fun e' => e e'.symm)]
    simp
  have hvn : v ∉ hs := fun hin => by
    have := ((h.mem v).1 hin).2
    rw [cn_cons, if_pos rfl] at this
    omega
  rcases hh with ⟨h0, rfl⟩ | ⟨h0, rfl⟩
  · obtain ⟨a1, a2, a3⟩ := push_heap hs v hs.length rfl h.heap
    refine ⟨h.sub, h.onodup, a2.nodup_iff.2 (List.nodup_cons.2 ⟨hvn, h.nodup⟩), by rw [a3]; exact a1, fun u => ?_, hw, h.u, fun x hx => h.l x (by simp [hx])⟩
    rw [a2.mem_iff, List.mem_cons]
    by_cases e : u = v
    · subst e
      refine ⟨fun _ => ⟨⟨hv.1, hv.2, filter_zero.1 (by omega)⟩, by omega⟩, fun _ => .inl rfl⟩
    · rw [hother u e]
      simp [e]
  · refine ⟨h.sub, h.onodup, h.nodup, h.heap, fun u => ?_, hw, h.u, fun x hx => h.l x (by simp [hx])⟩
    by_cases e : u = v
    · subst e
      refine ⟨fun hin => absurd hin hvn, fun ⟨⟨b1, b2, b3⟩, b4⟩ => ?_⟩
      have := filter_zero.2 b3
      omega
    · exact hother u e
theorem KJ.over (h : KJ gs out [] hs W U) : KI gs out hs W U :=
  ⟨h.sub, h.onodup, h.nodup, h.heap, fun p => by rw [h.mem p]; simp [cn_nil], fun u hu => by rw [h.w u hu, cn_nil]; rfl, h.u⟩
theorem KI.length (h : KI gs out hs W U) : out.length ≤ (paths gs).length := by
  exact nodup_sub h.onodup h.sub.sub
theorem KJ.length {l : List ByteArray} (h : KJ gs out l hs W U) : out.length ≤ (paths gs).length := by
  exact nodup_sub h.onodup h.sub.sub
/-- the order is whole -/
def OrdSpec (gs : Got) (out : List ByteArray) : Prop := OrdSub gs out ∧ ∀ u, ¬ ready gs out u
theorem KI.fin (h : KI gs out [] W U) : OrdSpec gs out := ⟨h.sub, fun u hu => by have := (h.mem u).2 hu; simp at this⟩
end Go.Proofs.YtmmmghpimdfleaaGreatDoor.St
