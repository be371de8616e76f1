/-
  View.Order: the closure of the roots, each path behind its references, the least first of those that may come.
  Store.Cut where the path is not there or is in use: nothing is cut.
-/
import Derived.Test.YtmmmghpimdfleaaGreatDoorGrpU
import Derived.Test.YtmmmghpimdfleaaGreatDoorGrpR
set_option linter.unusedVariables false
set_option linter.unusedSimpArgs false
namespace Go.Proofs.YtmmmghpimdfleaaGreatDoor.St
open Go.RowKit Mem Tr
open Go.Proofs.YtmmmghpimdfleaaGreatDoor.Own
open Go.Proofs.YtmmmghpimdfleaaGreatDoor.Mp (Mp Fv Rg)
open Go.Proofs.YtmmmghpimdfleaaGreatDoor.Hp (strs upL downL sw HeapB at')

open Classical in
noncomputable def doneF (done : List ByteArray) : Fv := fun k => if k ∈ done then some (.bool true) else none
noncomputable def rest (gs : Got) (done : List ByteArray) : Nat := wt (doneF done) (gs.map (·.1))
open Classical in
theorem rest_snoc {gs : Got} {done : List ByteArray} {x : Rec × List Value} (hx : x ∈ gs) (hd : x.1.path ∉ done) : rest gs (done ++ [x.1.path]) + x.1.refs.length ≤ rest gs done := by
  have h := wt_put (doneF done) x.1 (.bool true) (by unfold doneF; rw [if_neg hd]) (gs.map (·.1)) (List.mem_map_of_mem hx)
  have e : doneF (done ++ [x.1.path]) = Mp.put (doneF done) x.1.path (.bool true) := by
    funext k
    unfold doneF Mp.put
    by_cases e1 : k = x.1.path
    · rw [if_pos e1, if_pos (by simp [e1])]
    · rw [if_neg e1]
      show _ = (if k ∈ done then some (Value.bool true) else none)
      by_cases e2 : k ∈ done
      · rw [if_pos e2, if_pos (List.mem_append_left _ e2)]
      · rw [if_neg e2, if_neg (by simp [e1, e2])]
  unfold rest
  rw [e]
  exact h
theorem wt_cons (f : Fv) (r : Rec) (m : List Rec) : wt f (r :: m) = (if (f r.path).isSome then 0 else r.refs.length) + wt f m := rfl
theorem wt_erase (f : Fv) (r : Rec) : ∀ m : List Rec, r ∈ m → wt f m = (if (f r.path).isSome then 0 else r.refs.length) + wt f (m.erase r)
  | [], h => by cases h
  | x :: m, h => by
    by_cases e : x = r
    · subst e; rw [List.erase_cons_head]; rfl
    · rw [List.erase_cons_tail (by simpa using e)]
      have := wt_erase f r m ((List.mem_cons.1 h).resolve_left (fun h1 => e h1.symm))
      rw [wt_cons, wt_cons]
      omega
theorem wt_sub (f : Fv) : ∀ {l m : List Rec}, l.Nodup → (∀ a ∈ l, a ∈ m) → wt f l ≤ wt f m
  | [], _, _, _ => Nat.zero_le _
  | a :: l, m, hn, hs => by
    obtain ⟨h1, h2⟩ := List.nodup_cons.1 hn
    have h3 := wt_sub f (l := l) (m := m.erase a) h2 (fun x hx => (List.mem_erase_of_ne (fun e => h1 (by rw [← e]; exact hx))).2 (hs x (List.mem_cons_of_mem _ hx)))
    have h4 := wt_erase f a m (hs a List.mem_cons_self)
    rw [wt_cons]
    omega
theorem nodup_recs {gs : Got} (h : (paths gs).Nodup) : (gs.map (·.1)).Nodup := by
  unfold paths at h
  have e : gs.map (fun x => x.1.path) = (gs.map (·.1)).map Rec.path := by rw [List.map_map]; rfl
  rw [e] at h
  rw [List.nodup_iff_pairwise_ne, List.pairwise_map] at h
  exact h.imp (fun hne e => hne (by rw [e]))
theorem refsOf_mem {gs : Got} (h : (paths gs).Nodup) {x : Rec × List Value} (hx : x ∈ gs) : refsOf gs x.1.path = x.1.refs := by
  unfold refsOf
  induction gs with
  | nil => cases hx
  | cons y l ih =>
    unfold paths at h
    rw [List.map_cons, List.nodup_cons] at h
    by_cases e : y.1.path = x.1.path
    · rcases List.mem_cons.1 hx with h1 | h1
      · subst h1; rw [List.find?_cons_of_pos (by simp)]
      · exact absurd (by rw [e]; exact List.mem_map_of_mem h1) h.1
    · rw [List.find?_cons_of_neg (by simpa using e)]
      rcases List.mem_cons.1 hx with h1 | h1
      · subst h1; exact absurd rfl e
      · exact ih h.2 h1

theorem KM.start {w w1 w2 w3 w5 : World} {ks : List ByteArray} (h1 : Below w.heap.size w w1) (e2 : w1.alloc (.map #[] 0) = w2) (e3 : w2.alloc (.map #[] 0) = w3)
    (e5 : (w3.alloc (.cells #[] 9)).alloc (.cells #[.slice (some ⟨w3.heap.size, 0, none⟩) 0 0] 131) = w5) :
    KM w w1.heap.size w2.heap.size (w3.heap.size + 1) ks (.slice (some ⟨w3.heap.size, 0, none⟩) 0 0) (.slice none 0 0) [] [] (fun _ => 0) (fun _ => []) (fun _ => none) w5 ∧ Below w1.heap.size w1 w5 := by
  have s1 := h1.size
  have z2 : w2.heap.size = w1.heap.size + 1 := by rw [← e2]; simp
  have z3 : w3.heap.size = w2.heap.size + 1 := by rw [← e3]; simp
  have b12 : Below w1.heap.size w1 w2 := by rw [← e2]; exact (Below.refl _ w1).alloc (Nat.le_refl _) _
  have b23 : Below w2.heap.size w2 w3 := by rw [← e3]; exact (Below.refl _ w2).alloc (Nat.le_refl _) _
  have b35 : Below w3.heap.size w3 w5 := by rw [← e5]; exact ((Below.refl _ w3).alloc (Nat.le_refl _) _).alloc (by simp) _
  have b25 : Below w2.heap.size w2 w5 := b23.trans (b35.mono (by omega))
  have b15 : Below w1.heap.size w1 w5 := b12.trans (b25.mono (by omega))
  have m2 : Mp w2 w1.heap.size 0 (fun _ => none) := by rw [← e2]; exact Mp.made w1
  have m3 : Mp w3 w2.heap.size 0 (fun _ => none) := by rw [← e3]; exact Mp.made w2
  have bx : Bx w5 (w3.heap.size + 1) #[.slice (some ⟨w3.heap.size, 0, none⟩) 0 0] 131 := by
    rw [← e5]
    have := Bx.new (w3.alloc (.cells #[] 9)) #[.slice (some ⟨w3.heap.size, 0, none⟩) 0 0] 131
    simpa using this
  have rb : Bx w5 w3.heap.size #[] 9 := by
    rw [← e5]
    exact (Bx.new w3 #[] 9).alloc _
  refine ⟨⟨h1.trans (b15.mono s1), ⟨s1, by omega, by omega⟩, ⟨_, (m2.below b25).mono (Nat.zero_le _), fun _ => rfl, fun u h => absurd h (by simp)⟩, ⟨(m3.below b35).mono (Nat.zero_le _), fun q => World.ownsRow_nil _ _ _ _, fun q q' g _ h => absurd h (by simp [uv, Value.ownBlock]), fun q g h => absurd h (by simp [uv, Value.ownBlock]), fun u h => absurd h (by simp)⟩, bx, ⟨rfl, .inr ⟨w3.heap.size, 0, #[], rfl, by omega, rb, Nat.le_refl _, Nat.zero_le _, rfl, rfl⟩⟩, World.ownsRow_nil _ _ _ _, fun g _ h => absurd h (by simp [Value.ownBlock])⟩, b15⟩

theorem KM.other {w wr w' : World} {bw bu bh b r n cnt : Nat} {ks hs out : List ByteArray} {hv ov : Value} {Wf : ByteArray → Nat} {U : ByteArray → List ByteArray} {fu f : Fv} {left : ByteArray → Bool}
    (h : KM w bw bu bh ks hv ov hs out Wf U fu wr) (hR : Rg wr b r n f left cnt) (hg : wr.grownBy w' (some r)) (h0 : w.heap.size ≤ r) (hr : r ≠ bw ∧ r ≠ bu ∧ r ≠ bh) : KM w bw bu bh ks hv ov hs out Wf U fu w' := by
  obtain ⟨h1, h2, ⟨f, f1, f2, f3⟩, ⟨g1, g2, g3, g4, g5⟩, h5, h6, h7, h8⟩ := h
  exact ⟨h1.grown hg h1.size (fun k e => by cases e; exact h0), h2, ⟨f, f1.kept hg (fun e => hr.1 (Option.some.inj e).symm), f2, f3⟩, ⟨g1.kept hg (fun e => hr.2.1 (Option.some.inj e).symm), fun q => (g2 q).kept hg (.inr (hR.notRow (g2 q))), g3, g4, g5⟩,
    h5.kept (hg.block bh h5.lt (fun e => hr.2.2 (Option.some.inj e).symm)), h6.kept hg (.inr (hR.notRow h6)), h7.kept hg (.inr (hR.notRow h7)), h8⟩
theorem Rg.below {w w' : World} {b r n cnt : Nat} {f : Fv} {left : ByteArray → Bool} (h : Rg w b r n f left cnt) (hb : Below w.heap.size w w') : Rg w' b r n f left cnt := h.block (hb.block b h.mp.lt) (hb.block r h.lt)

/-- one reference that is not the path's own: 'waits[p]++; users[q] = append(users[q], p)' -/
theorem KM.edge {w wr : World} {bw bu bh : Nat} {ks hs out : List ByteArray} {hv ov : Value} {Wf : ByteArray → Nat} {U : ByteArray → List ByteArray} {fu : Fv} {p q : ByteArray}
    (h : KM w bw bu bh ks hv ov hs out Wf U fu wr) (hp : p.size ≤ maxLen) (hq : q.size ≤ maxLen) (hpk : p ∈ ks) (hqk : q ∈ ks) (hks : ks.length < maxLen) (hU : (U q).length < 1099511627776) :
    ∃ x : Nat, Wf p = x ∧ ∃ wA v W2 g n cap W3, n = (U q).length + 1 ∧ (Instr.lookup 67 (.map (some bw)) (.string p) false).run Tryz.prog wr = .ok (.int .i64 x) wr ∧
      (Instr.mapUpdate 67 (.map (some bw)) (.string p) (.int .i64 ((x : Int) + 1))).run Tryz.prog wr = .ok () wA ∧
      (Instr.lookup 129 (.map (some bu)) (.string q) false).run Tryz.prog wA = .ok v wA ∧
      (Builtin.append_ #[27, 27] 27 #[v, .slice (some ⟨wA.heap.size, 0, none⟩) 1 1]).run Tryz.prog (wA.alloc (.cells #[.string p] 9)) = .ok (.slice (some ⟨g, 0, none⟩) n cap) W2 ∧
      (Instr.mapUpdate 129 (.map (some bu)) (.string q) (.slice (some ⟨g, 0, none⟩) n cap)).run Tryz.prog W2 = .ok () W3 ∧
      Hid (KM w bw bu bh ks hv ov hs out (fun z => if z = p then Wf p + 1 else Wf z) (fun z => if z = q then U q ++ [p] else U z) (Mp.put fu q (.slice (some ⟨g, 0, none⟩) ((U q).length + 1) cap)) W3 ∧ Fr w bw bu bh wr wA ∧ Fr w bw bu bh wA W3) := by
  obtain ⟨wA, hrun, kmA, frA⟩ := h.wait_set hp hpk hks (Wf p + 1)
  obtain ⟨W2, g, cap, W3, a1, a2, a3, kmB, frB⟩ := kmA.user_add (u := p) hq hqk hks hU
  exact ⟨Wf p, rfl, wA, _, W2, g, _, cap, W3, rfl, h.wait_look hp, hrun, a1, a2, a3, Lib.hid ⟨kmB, frA, frB⟩⟩

def PostOrd (F : Nat → Prop) (w : World) (rs : List Rec) (roots : List ByteArray) (e : Ending) (w' : World) : Prop :=
  Below w.heap.size w w' ∧ ((∃ q, Rch rs roots q ∧ Sto.has rs q = false ∧ e = .returned (.tuple #[.slice none 0 0, .int .i64 3])) ∨
    ∃ v gs out, e = .returned (.tuple #[v, .int .i64 0]) ∧ SRow w' w.heap.size v out ∧ (paths gs).Nodup ∧ (∀ x ∈ gs, x.1 ∈ rs) ∧ (∀ p, p ∈ paths gs ↔ Rch rs roots p) ∧ OrdSpec gs out)

set_option maxHeartbeats 4000000 in
set_option maxRecDepth 20000 in
theorem orderC (M F S : Nat → Prop) (s : Nat) (rs : List Rec) (rv : Value) (roots : List ByteArray) (w : World) (h : Is M F w s rs) (hn : rs.length ≤ 1073741822) (hr : Strs S w rv roots) (hwt : roots.length + wt (fun _ => none) rs ≤ 1099511627776) (hps : ∀ p, Rch rs roots p → p.size ≤ maxLen) :
    Calls Tryz.prog 38 #[.pointer (some ⟨s, 0, none⟩), rv] w (PostOrd F w rs roots) := by
  have hR := reachC M F S s rs rv roots w h (by omega) hr hwt hps
  have HF := Lib.hid (show ∀ b, F b → b < w.heap.size by obtain ⟨⟨t, b0, ha⟩, ho⟩ := h; exact ha.ltF)
  clear h
  go_enter Tryz.func38, Tryz.ntmps38
  go_wp2_with fail
  refine hR.mono ?_
  rintro e w1 ⟨b1, ⟨q, h1, h2, rfl⟩ | ⟨b, gs, rfl, hb, hmp, hnd, hrec, hrch⟩⟩
  · have HH := Lib.hid (show Rch rs roots q ∧ Sto.has rs q = false from ⟨h1, h2⟩)
    clear h1 h2
    go_wp2_with fail
    go_ret2
    exact ⟨b1, .inl ⟨q, HH.out.1, HH.out.2, rfl⟩⟩
  · have HH := Lib.hid (show (paths gs).Nodup ∧ (∀ x ∈ gs, x.1 ∈ rs ∧ RecAt F w1 x.2 x.1) ∧ ∀ p, p ∈ paths gs ↔ Rch rs roots p from ⟨hnd, hrec, hrch⟩)
    have MP := Lib.hid hmp
    clear hnd hrec hrch hmp hR
    have mk1 : (Instr.makeMap 67 none).run Tryz.prog w1 = .ok (.map (some w1.heap.size)) (w1.alloc (.map #[] 0)) := run_makeMap _ w1
    obtain ⟨w2, hw2⟩ : ∃ W, w1.alloc (.map #[] 0) = W := ⟨_, rfl⟩
    rw [hw2] at mk1
    have mk2 : (Instr.makeMap 129 none).run Tryz.prog w2 = .ok (.map (some w2.heap.size)) (w2.alloc (.map #[] 0)) := run_makeMap _ w2
    obtain ⟨w3, hw3⟩ : ∃ W, w2.alloc (.map #[] 0) = W := ⟨_, rfl⟩
    rw [hw3] at mk2
    have HW := Lib.hid (show w1.alloc (.map #[] 0) = w2 ∧ w2.alloc (.map #[] 0) = w3 from ⟨hw2, hw3⟩)
    clear hw2 hw3
    obtain ⟨w5, hw5⟩ : ∃ W, (w3.alloc (.cells #[] 9)).alloc (.cells #[.slice (some ⟨w3.heap.size, 0, none⟩) 0 0] 131) = W := ⟨_, rfl⟩
    obtain ⟨km5, b15⟩ := KM.start (ks := paths gs) b1 HW.out.1 HW.out.2 hw5
    obtain ⟨w6, cnt, hrange, rg6, hg6, hs6, hcnt⟩ := (MP.out.below b15).range (t := 126) Tryz.underlying126
    have e5 : w5.heap.size = w3.heap.size + 1 + 1 := by rw [← hw5]; simp
    rw [e5] at hrange rg6
    rw [← hw5] at hrange
    have HW5 := Lib.hid hw5
    clear hw5
    have b56 : Below w5.heap.size w5 w6 := ⟨hg6.os, hg6.tape, hg6.output, hg6.size, fun k hk => hg6.block k hk (by simp)⟩
    have km6 := km5.grow b56
    have HZ := Lib.hid (show b < w1.heap.size ∧ w1.heap.size < w2.heap.size ∧ w2.heap.size < w3.heap.size + 1 ∧ w3.heap.size + 1 < w3.heap.size + 1 + 1 from ⟨MP.out.lt, km5.pos.2.1, km5.pos.2.2, by omega⟩)
    have HI0 := Lib.hid (show KM w w1.heap.size w2.heap.size (w3.heap.size + 1) (paths gs) (.slice (some ⟨w3.heap.size, 0, none⟩) 0 0) (.slice none 0 0) [] [] (fun _ => 0) (fun _ => []) (fun _ => none) w6 ∧ Rg w6 b (w3.heap.size + 1 + 1) gs.length (gotF gs) (fun k => (gotF gs k).isSome) cnt from ⟨km6, rg6⟩)
    have hrest : rest gs [] ≤ 1099511627776 := by
      have h1 := wt_sub (doneF []) (nodup_recs HH.out.1) (fun a ha => by obtain ⟨x, hx, rfl⟩ := List.mem_map.1 ha; exact (HH.out.2.1 x hx).1)
      have e : doneF [] = fun _ => none := by funext k; unfold doneF; simp
      unfold rest
      rw [e] at h1 ⊢
      omega
    have HREST := Lib.hid hrest
    have HGL := Lib.hid (show gs.length ≤ 1073741822 by
      have h1 := nodup_sub (nodup_recs HH.out.1) (m := rs) (fun a ha => by obtain ⟨x, hx, rfl⟩ := List.mem_map.1 ha; exact (HH.out.2.1 x hx).1)
      rw [List.length_map] at h1
      omega)
    have HPS := Lib.hid (show ∀ p ∈ paths gs, p.size ≤ maxLen from fun p hp => hps p ((HH.out.2.2 p).1 hp))
    have HKS := Lib.hid (show (paths gs).length < maxLen by unfold paths; rw [List.length_map]; have := HGL.out; unfold maxLen; omega)
    clear e5 km5 b15 hg6 hs6 b56 km6 rg6 hrest hcnt
    go_wp2_with fail
    clear mk1 mk2
    go_loopg [] cnt (fun k wr => ∃ hv hs done Wf U fu left, Hid (KM w w1.heap.size w2.heap.size (w3.heap.size + 1) (paths gs) hv (.slice none 0 0) hs [] Wf U fu wr ∧ Rg wr b (w3.heap.size + 1 + 1) gs.length (gotF gs) left k ∧ P1 gs done hs Wf U ∧ (∀ p, left p = true ↔ p ∈ paths gs ∧ p ∉ done) ∧ (∀ q, (U q).length + rest gs done ≤ 1099511627776) ∧ ∀ q, Wf q + rest gs done ≤ 1099511627776))
    case atStart => exact ⟨_, _, [], _, _, _, _, Lib.hid ⟨HI0.out.1, HI0.out.2, P1.start, fun p => by rw [isSome_gotF]; simp, fun q => by simpa using HREST.out, fun q => by simpa using HREST.out⟩⟩
    case round =>
      obtain ⟨hv, hs, done, Wf, U, fu, left, HI⟩ := hrel
      clear hrange HI0
      rcases HI.out.2.1.next 0 with ⟨hk0, hl0, hnx⟩ | ⟨p, v, w7, cnt', hps1, hlp, hfp, hnx, rg7, hlt, hg7, hs7, hen⟩
      · have HI2 := Lib.hid (show KM w w1.heap.size w2.heap.size (w3.heap.size + 1) (paths gs) hv (.slice none 0 0) hs [] Wf U fu wr ∧ KI gs [] hs Wf U ∧ (∀ q, (U q).length ≤ 1099511627776) ∧ ∀ q, Wf q ≤ 1099511627776 from
          ⟨HI.out.1, HI.out.2.2.1.over (fun p hp => Classical.byContradiction fun hd => by
            have := (HI.out.2.2.2.1 p).2 ⟨hp, hd⟩
            rw [hl0 p] at this; cases this), fun q => by have := HI.out.2.2.2.2.1 q; omega, fun q => by have := HI.out.2.2.2.2.2 q; omega⟩)
        clear HI hl0 hk0
        go_wp2_with fail
        clear hnx
        go_loopg [15] gs.length (fun k ov wr => ∃ (ao : Option Addr) (n c : Nat), ov = .slice ao n c ∧ Hid (∃ hv hs out Wf U fu, KM w w1.heap.size w2.heap.size (w3.heap.size + 1) (paths gs) hv ov hs out Wf U fu wr ∧ KI gs out hs Wf U ∧ (∀ q, (U q).length ≤ 1099511627776) ∧ (∀ q, Wf q ≤ 1099511627776) ∧ out.length + k = gs.length))
        case atStart => exact ⟨none, 0, 0, rfl, Lib.hid ⟨hv, hs, [], Wf, U, fu, HI2.out.1, HI2.out.2.1, HI2.out.2.2.1, HI2.out.2.2.2, by simp⟩⟩
        case round =>
          obtain ⟨ao, no, co, rfl, HJ⟩ := hrel
          obtain ⟨hv1, hs1, out, Wf1, U1, fu1, km1, ki1, hu1, hw1, hk1⟩ := HJ.out
          have d0 := km1.box.cell 0
          have hlow := Tab.own_low km1.row
          obtain ⟨nh, hnh⟩ : ∃ nh, hs1.length = nh := ⟨_, rfl⟩
          have HNH := Lib.hid hnh
          by_cases h0 : nh = 0
          · subst h0
            have hnil := List.eq_nil_of_length_eq_zero hnh
            have HKI := Lib.hid (show KM w w1.heap.size w2.heap.size (w3.heap.size + 1) (paths gs) hv1 (.slice ao no co) hs1 out Wf1 U1 fu1 wr ∧ OrdSpec gs out from ⟨km1, (hnil ▸ ki1).fin⟩)
            clear km1 ki1 hu1 hw1 hk1 HJ hnil
            go_wp2_with fail
            refine (Hp.lenC 0 hs1 hv1 wr (by rw [hnh] at hlow; exact hlow)).mono ?_
            rintro e w8 ⟨rfl, rfl⟩
            clear hlow hnh
            go_wp2_with fail
            go_ret2
            exact ⟨HKI.out.1.below, .inr ⟨_, gs, out, rfl, HKI.out.1.outs, HH.out.1, fun x hx => (HH.out.2.1 x hx).1, HH.out.2.2, HKI.out.2⟩⟩
          · obtain ⟨m, rfl⟩ : ∃ m, nh = m + 1 := ⟨nh - 1, by omega⟩
            obtain ⟨g, cap, hvv⟩ := ownsRow_succ (by rw [hnh] at hlow; exact hlow)
            subst hvv
            obtain ⟨D, hD⟩ : ∃ D, downL (sw hs1 0 m) 0 m = D := ⟨_, rfl⟩
            obtain ⟨k1, k2, k3, k4, kj⟩ := ki1.pop hnh hD
            have hm0 : (0 : Int) ≤ (m : Int) := Int.natCast_nonneg _
            have hml : m < 1073741822 := by
              have h1 : hs1.length ≤ (paths gs).length := nodup_sub ki1.nodup (fun a ha => ((ki1.mem a).1 ha).1)
              unfold paths at h1
              rw [List.length_map] at h1
              have := HGL.out
              omega
            rw [hnh] at hlow
            have HKM := Lib.hid (show KM w w1.heap.size w2.heap.size (w3.heap.size + 1) (paths gs) (.slice (some ⟨g, 0, none⟩) (m + 1) cap) (.slice ao no co) hs1 out Wf1 U1 fu1 wr from km1)
            have HLOW := Lib.hid hlow
            have HKJ := Lib.hid (show KJ gs (out ++ [at' D m]) (U1 (at' D m)) (D.take m) Wf1 U1 from kj)
            have HD := Lib.hid hD
            have HB := Lib.hid (show (∀ q, (U1 q).length ≤ 1099511627776) ∧ (∀ q, Wf1 q ≤ 1099511627776) ∧ out.length + gk = gs.length from ⟨hu1, hw1, hk1⟩)
            have HK4 := Lib.hid (show at' D m ∈ paths gs ∧ (D.take m).length = m from ⟨k4, k2⟩)
            clear km1 hlow kj hD hu1 hw1 hk1 ki1 k1 k2 k3 k4 hnh h0 HJ
            go_wp2_with fail
            refine (Hp.lenC (m + 1) hs1 _ wr HLOW.out).mono ?_
            rintro e w8 ⟨rfl, rfl⟩
            go_wp2_with fail
            refine (Hp.hpopC (w3.heap.size + 1) g m cap hs1 (by omega) w8 HKM.out.box HLOW.out).mono ?_
            rintro e w9 ⟨rfl, hx9, hr9, hk9⟩
            rw [HD.out] at hr9 ⊢
            obtain ⟨p, hp⟩ : ∃ p, at' D m = p := ⟨_, rfl⟩
            rw [hp] at HKJ HK4 ⊢
            have hst := HKM.out.heap_step (hs' := D.take m) (g := g) (hk9.mono (fun i hi e => by
              rcases e with e | e
              · exact .inl e
              · exact .inr (by rw [e]; rfl))) hx9 (by rw [HK4.out.2]; exact hr9) rfl (.inl rfl)
            have tA := Hp.tAssert p
            have hps := HPS.out p HK4.out.1
            have hol : out.length < 1099511627776 := by
              have h1 := HB.out.2.2
              have h2 := HGL.out
              omega
            obtain ⟨g2, cap2, W2, hap, km2⟩ := hst.1.out_add p hol
            have hlook := km2.user_look hps
            have hrow := km2.users.2.1 p
            obtain ⟨av, cv, huv⟩ := Tab.own_len hrow
            obtain ⟨nu, hnu⟩ : ∃ nu, (U1 p).length = nu := ⟨_, rfl⟩
            rw [hnu] at huv
            rw [huv] at hlook
            have hnub : nu ≤ 1099511627776 := by have := HB.out.1 p; omega
            have HNU := Lib.hid hnu
            have HUV := Lib.hid huv
            have HK2 := Lib.hid km2
            have hgk : 1 ≤ gk := by
              have h1 := HKJ.out.length
              unfold paths at h1
              rw [List.length_append, List.length_map] at h1
              have := HB.out.2.2
              simp at h1
              omega
            clear km2 hrow hst hx9 hr9 hk9 hnu huv hol
            go_wp2_with (at_builtin; refine wpList_append_run _ (by rfl) _ _ 27 27 (by rfl) _ _ (by rfl) (by rfl) hap ?_)
            clear hlook hap tA
            go_loopw [88] (fun i wj => ∃ j : Nat, j ≤ nu ∧ i = .int .i64 j ∧ Hid (∃ hv hs Wf, KM w w1.heap.size w2.heap.size (w3.heap.size + 1) (paths gs) hv (.slice (some ⟨g2, 0, none⟩) (out.length + 1) cap2) hs (out ++ [p]) Wf U1 fu1 wj ∧ KJ gs (out ++ [p]) ((U1 p).drop j) hs Wf U1 ∧ ∀ q, Wf q ≤ 1099511627776)) (fun i _ => nu - (intOf i).toNat)
            case atStart => exact ⟨0, Nat.zero_le _, rfl, Lib.hid ⟨_, _, Wf1, HK2.out, by simpa using HKJ.out, HB.out.2.1⟩⟩
            case round =>
              obtain ⟨j, hj, rfl, HJ⟩ := hrel
              obtain ⟨hvj, hsj, Wj, kmj, kjj, hbj⟩ := HJ.out
              have k0 : (0 : Int) ≤ (j : Int) := Int.natCast_nonneg _
              by_cases hlt : j < nu
              · have k1 : (j : Int) < (nu : Int) := by omega
                have hjl : j < (U1 p).length := by rw [HNU.out]; exact hlt
                have hrow := kmj.users.2.1 p
                rw [HUV.out] at hrow
                unfold SRow at hrow
                rw [HNU.out] at hrow
                obtain ⟨gu, rfl⟩ : ∃ gu, av = some ⟨gu, 0, none⟩ := by
                  rcases hrow.2 with ⟨e, e'⟩ | ⟨gu, _, _, e, _⟩
                  · omega
                  · cases e; exact ⟨gu, rfl⟩
                obtain ⟨u, hu⟩ : ∃ u, (U1 p)[j] = u := ⟨_, rfl⟩
                have g1 : wr.cell? ⟨gu, j, none⟩ = some (.string u) := by
                  rw [hrow.cellAt j (by omega)]
                  unfold strs
                  rw [List.getElem?_map, List.getElem?_eq_getElem hjl, hu]; rfl
                have hdr : (U1 p).drop j = u :: (U1 p).drop (j + 1) := by rw [← hu]; exact List.drop_eq_getElem_cons hjl
                rw [hdr] at kjj
                have hup := (kjj.l u (by simp)).1
                have hups := HPS.out u hup
                have hstep := fun hs' => kjj.step (hs' := hs')
                have hpos := (hstep []).1
                obtain ⟨y, hy⟩ : ∃ y, Wj u = y + 1 := ⟨Wj u - 1, by omega⟩
                have l1 := kmj.wait_look hups
                rw [hy, Int.natCast_add] at l1
                obtain ⟨wA, m1, kmA, frA⟩ := kmj.wait_set hups hup HKS.out y
                have l2 := kmA.wait_look hups
                rw [if_pos rfl] at l2
                have hyb : (y : Int) ≤ 1099511627776 := by have := hbj u; omega
                have hy0 : (0 : Int) ≤ (y : Int) := Int.natCast_nonneg _
                have HST := Lib.hid (show ∀ hs', (y = 0 ∧ hs' = upL (hsj ++ [u]) hsj.length ∨ y ≠ 0 ∧ hs' = hsj) → KJ gs (out ++ [p]) ((U1 p).drop (j + 1)) hs' (fun z => if z = u then y else Wj z) U1 from fun hs' hh => by
                  have h1 := (hstep hs').2 (by rw [hy]; simpa using hh)
                  rw [hy] at h1
                  simpa using h1)
                have HBN := Lib.hid (show ∀ q, (if q = u then y else Wj q) ≤ 1099511627776 from fun q => by
                  have h1 := hbj u
                  have h2 := hbj q
                  split <;> omega)
                have HKA := Lib.hid kmA
                have hsl : hsj.length < 1073741823 := by
                  have h1 : hsj.length ≤ (paths gs).length := nodup_sub kjj.nodup (fun a ha => ((kjj.mem a).1 ha).1.1)
                  unfold paths at h1
                  rw [List.length_map] at h1
                  have := HGL.out
                  omega
                clear kmj kjj hbj hrow hdr hup hstep hpos hy kmA frA HJ hu hjl hups
                by_cases h0 : y = 0
                · subst h0
                  rw [show ((0 : Nat) : Int) = 0 from rfl] at m1 l2
                  go_wp2_with fail
                  refine (Hp.hpushC (w3.heap.size + 1) hsj.length hvj hsj u hsl wA HKA.out.box (Tab.own_low HKA.out.row)).mono ?_
                  rintro e wB ⟨rfl, gB, capB, hxB, hrB, hkB, hatB⟩
                  have hul : (upL (hsj ++ [u]) hsj.length).length = hsj.length + 1 := by rw [Hp.upL_length, List.length_append]; rfl
                  have hst := HKA.out.heap_step (hs' := upL (hsj ++ [u]) hsj.length) (g := gB) hkB hxB (by rw [hul]; exact hrB) rfl hatB
                  have HSB := Lib.hid hst.1
                  clear hst hxB hrB hkB hatB hul
                  go_wp2_with fail
                  go_roundw
                  case rel => exact ⟨j + 1, by omega, by go_num, Lib.hid ⟨_, _, _, HSB.out, HST.out (upL (hsj ++ [u]) hsj.length) (.inl ⟨by first | rfl | trivial, rfl⟩), HBN.out⟩⟩
                  case measure => simp [intOf]; omega
                · have e0 : ((y : Int) == 0) = false := by simp; omega
                  have HY := Lib.hid h0
                  clear h0
                  go_wp2_with fail
                  go_roundw
                  case rel => exact ⟨j + 1, by omega, by go_num, Lib.hid ⟨_, _, _, HKA.out, HST.out hsj (.inr ⟨HY.out, rfl⟩), HBN.out⟩⟩
                  case measure => simp [intOf]; omega
              · obtain rfl : j = nu := by omega
                have hdr : (U1 p).drop j = [] := List.drop_eq_nil_of_le (by rw [HNU.out]; exact Nat.le_refl _)
                rw [hdr] at kjj
                have HE := Lib.hid (show KM w w1.heap.size w2.heap.size (w3.heap.size + 1) (paths gs) hvj (.slice (some ⟨g2, 0, none⟩) (out.length + 1) cap2) hsj (out ++ [p]) Wj U1 fu1 wr ∧ KI gs (out ++ [p]) hsj Wj U1 ∧ ∀ q, Wj q ≤ 1099511627776 from ⟨kmj, kjj.over, hbj⟩)
                have k1 : ¬ (j : Int) < (j : Int) := by omega
                clear kmj kjj hbj hdr HJ hlt
                go_wp2_with fail
                go_roundg (gk - 1)
                case measure => omega
                case rel => exact ⟨_, _, _, rfl, Lib.hid ⟨hvj, hsj, out ++ [p], Wj, U1, fu1, HE.out.1, HE.out.2.1, HB.out.1, HE.out.2.2, by have := HB.out.2.2; rw [List.length_append]; simp; omega⟩⟩
      · obtain ⟨⟨r, cs⟩, hx, hxp, hxv⟩ := gotF_some hfp
        replace hxp : r.path = p := hxp
        replace hxv : v = .agg cs.toArray := hxv
        subst hxp hxv
        have hrec : RecAt F w1 cs r := (HH.out.2.1 _ hx).2
        have hl := hrec.length
        have hoc := Tab.recOne hrec
        have hri : r ∈ rs := (HH.out.2.1 _ hx).1
        obtain ⟨kv, rv, hcs, hh, hk, ao, c, rfl, hnc, hcm, hat⟩ := hrec
        replace hcs : cs = r.cells kv (.slice ao r.refs.length c) := hcs
        have HR := Lib.hid (show r.refs = [] ∨ ∃ rb ro, ao = some ⟨rb, ro, none⟩ ∧ F rb ∧ ∀ j (h : j < r.refs.length), w1.cell? ⟨rb, ro + j, none⟩ = some (.string r.refs[j]) from hat)
        have hnd : r.path ∉ done := ((HI.out.2.2.2.1 r.path).1 hlp).2
        have hin : r.path ∈ paths gs := ((HI.out.2.2.2.1 r.path).1 hlp).1
        have hbud : rest gs (done ++ [r.path]) + r.refs.length ≤ rest gs done := rest_snoc hx hnd
        have km7 := HI.out.1.other HI.out.2.1 hg7 (by have := HZ.out; omega) (by have := HZ.out; omega)
        have hcl : ∀ q ∈ r.refs, q ∈ paths gs := fun q hq => (HH.out.2.2 q).2 (.step ((HH.out.2.2 r.path).1 hin) hri hq)
        have HP := Lib.hid (show (∀ q ∈ r.refs, q ∈ paths gs) ∧ r.path ∈ paths gs ∧ r.path ∉ done ∧ rest gs (done ++ [r.path]) + r.refs.length ≤ rest gs done ∧ cnt' < gk ∧ (r, cs) ∈ gs ∧ r.path.size ≤ maxLen from ⟨hcl, hin, hnd, hbud, hlt, hx, hps1⟩)
        have HK7 := Lib.hid (show KM w w1.heap.size w2.heap.size (w3.heap.size + 1) (paths gs) hv (.slice none 0 0) hs [] Wf U fu w7 ∧ Rg w7 b (w3.heap.size + 1 + 1) gs.length (gotF gs) (fun x => left x && decide (x ≠ r.path)) cnt' from ⟨km7, rg7⟩)
        obtain ⟨n, hn'⟩ : ∃ n, r.refs.length = n := ⟨_, rfl⟩
        have hnb : n ≤ 1099511627776 := by
          have := (HI.out.2.2.2.2.1 r.path)
          omega
        have HN := Lib.hid hn'
        rw [hn'] at hcs
        have HC := Lib.hid hcs
        clear hcs
        have hne2 := HI.out.2.1.ne
        clear km7 rg7 hnd hin hbud hcl hri hx hk hh hat hnc hcm hlp hfp hg7 hs7 hlt hn' hne2
        go_wp2_with (refine wpList_store_mid (by rfl) 31 _ _ (by rfl) w7.heap.size 0 cs.toArray (by rfl) (by rfl) ?h4 ?h5 ?h6 ?_; rotate_right; refine Mem.named ?_; intro W hW; have d5 : W.cell? ⟨w7.heap.size, 5, none⟩ = some (.slice ao n c) := (by have hrg := stash_range hW (by rw [hl]; rfl); have := hrg 5 (.slice ao n c) (by rw [HC.out]; rfl); simpa using this); have HW7 := Lib.hid (stash hW); clear hW)
        case h4 => exact (Bx.new w7 Ins.zeroRec.cells 31).there _ (by rw [show cs.toArray.size = 39 by simpa using hl]; rfl)
        case h5 => rw [List.size_toArray, hl]; kernel_rfl
        case h6 => exact all_oneCell_toArray hoc
        have HKW := Lib.hid (show KM w w1.heap.size w2.heap.size (w3.heap.size + 1) (paths gs) hv (.slice none 0 0) hs [] Wf U fu W ∧ Rg W b (w3.heap.size + 1 + 1) gs.length (gotF gs) (fun x => left x && decide (x ≠ r.path)) cnt' from ⟨HK7.out.1.grow HW7.out, Rg.below HK7.out.2 HW7.out⟩)
        clear d5 hnx hen hl hoc HW7 HK7
        have HP1 := Lib.hid (HI.out.2.2.1.enter HP.out.2.2.1)
        have HBU := Lib.hid (show ∀ q, (U q).length + rest gs done ≤ 1099511627776 ∧ Wf q + rest gs done ≤ 1099511627776 from fun q => ⟨HI.out.2.2.2.2.1 q, HI.out.2.2.2.2.2 q⟩)
        go_loopw [42] (fun i wj => ∃ j : Nat, j ≤ n ∧ i = .int .i64 j ∧ Hid (∃ Wf U fu, KM w w1.heap.size w2.heap.size (w3.heap.size + 1) (paths gs) hv (.slice none 0 0) hs [] Wf U fu wj ∧ Rg wj b (w3.heap.size + 1 + 1) gs.length (gotF gs) (fun x => left x && decide (x ≠ r.path)) cnt' ∧ P1i gs done r.path (r.refs.take j) hs Wf U ∧
          ∀ q, (U q).length + (n - j) + rest gs (done ++ [r.path]) ≤ 1099511627776 ∧ Wf q + (n - j) + rest gs (done ++ [r.path]) ≤ 1099511627776)) (fun i _ => n - (intOf i).toNat)
        case atStart => exact ⟨0, Nat.zero_le _, rfl, Lib.hid ⟨Wf, U, fu, HKW.out.1, HKW.out.2, by simpa using HP1.out, fun q => by have h1 := HBU.out q; have h2 := HP.out.2.2.2.1; have h3 := HN.out; omega⟩⟩
        case round =>
          obtain ⟨j, hj, rfl, HJ⟩ := hrel
          obtain ⟨Wj, Uj, fj, kmj, rgj, p1j, hbj⟩ := HJ.out
          by_cases hlt : j < n
          · have hjl : j < r.refs.length := by rw [HN.out]; exact hlt
            obtain ⟨rb, ro, rfl, hFb, hcl⟩ := HR.out.resolve_left (fun e => by rw [e] at hjl; simp at hjl)
            obtain ⟨q, hq⟩ : ∃ q, r.refs[j] = q := ⟨_, rfl⟩
            have hqin : q ∈ r.refs := by rw [← hq]; exact List.getElem_mem hjl
            have g1 : wr.cell? ⟨rb, ro + j, none⟩ = some (.string q) := by
              rw [World.cell?_of_block (w := w1) (a := ⟨rb, ro + j, none⟩) ((kmj.below.block rb (HF.out rb hFb)).trans (b1.block rb (HF.out rb hFb)).symm), hcl j hjl, hq]
            have htk : r.refs.take (j + 1) = r.refs.take j ++ [q] := by rw [← hq]; exact (List.take_append_getElem hjl).symm
            have k0 : (0 : Int) ≤ (j : Int) := Int.natCast_nonneg _
            have k1 : (j : Int) < (n : Int) := by omega
            by_cases he : q = r.path
            · subst he
              have tt : (r.path.toList == r.path.toList) = true := by simp
              have HJ2 := Lib.hid (show KM w w1.heap.size w2.heap.size (w3.heap.size + 1) (paths gs) hv (.slice none 0 0) hs [] Wj Uj fj wr ∧ Rg wr b (w3.heap.size + 1 + 1) gs.length (gotF gs) (fun x => left x && decide (x ≠ r.path)) cnt' ∧ P1i gs done r.path (r.refs.take (j + 1)) hs Wj Uj from ⟨kmj, rgj, by rw [htk]; exact p1j.skip⟩)
              have HBJ := Lib.hid hbj
              clear kmj rgj p1j hbj htk hq hcl hjl HJ hqin hFb
              go_wp2_with fail
              go_roundw
              case rel => exact ⟨j + 1, by omega, by go_num, Lib.hid ⟨Wj, Uj, fj, HJ2.out.1, HJ2.out.2.1, HJ2.out.2.2, fun q => by have := HBJ.out q; omega⟩⟩
              case measure => simp [intOf]; omega
            · have tt : (q.toList == r.path.toList) = false := by rw [Eq.bytes_beq]; exact decide_eq_false he
              obtain ⟨x, hx, wA, vu, W2, g, n2, cap2, W3, en, l1, m1, l2, ap, m2, HE⟩ := kmj.edge (p := r.path) (q := q) HP.out.2.2.2.2.2.2 (HPS.out q (HP.out.1 q hqin)) HP.out.2.1 (HP.out.1 q hqin) HKS.out (by have := (hbj q).1; omega)
              have hxb : (x : Int) ≤ 1099511627776 := by have := (hbj r.path).2; omega
              have hx0 : (0 : Int) ≤ (x : Int) := Int.natCast_nonneg _
              have HJ2 := Lib.hid (show KM w w1.heap.size w2.heap.size (w3.heap.size + 1) (paths gs) hv (.slice none 0 0) hs [] _ _ _ W3 ∧ Rg W3 b (w3.heap.size + 1 + 1) gs.length (gotF gs) (fun x => left x && decide (x ≠ r.path)) cnt' ∧ P1i gs done r.path (r.refs.take (j + 1)) hs _ _ from
                ⟨HE.out.1, Fr.rg HE.out.2.2 (Fr.rg HE.out.2.1 rgj (by have := HZ.out; omega) (by have := HZ.out; omega)) (by have := HZ.out; omega) (by have := HZ.out; omega), by rw [htk]; exact p1j.add he⟩)
              have HBJ := Lib.hid hbj
              clear kmj rgj p1j hbj htk hq hcl hjl HJ hqin hFb HE hx he en
              go_wp2_with (at_builtin; refine wpList_append_run _ (by rfl) _ _ 27 27 (by rfl) _ _ (by rfl) (by rfl) ap ?_)
              go_roundw
              case rel =>
                refine ⟨j + 1, by omega, by go_num, Lib.hid ⟨_, _, _, HJ2.out.1, HJ2.out.2.1, HJ2.out.2.2, fun z => ?_⟩⟩
                have h1 := HBJ.out z
                have h2 := HBJ.out q
                have h3 := HBJ.out r.path
                constructor
                · show (if z = q then Uj q ++ [r.path] else Uj z).length + _ + _ ≤ _
                  by_cases e : z = q
                  · rw [if_pos e, List.length_append]; simp only [List.length_cons, List.length_nil]; omega
                  · rw [if_neg e]; omega
                · show (if z = r.path then Wj r.path + 1 else Wj z) + _ + _ ≤ _
                  by_cases e : z = r.path
                  · rw [if_pos e]; omega
                  · rw [if_neg e]; omega
              case measure => simp [intOf]; omega
          · obtain rfl : j = n := by omega
            have htk : r.refs.take j = r.refs := List.take_of_length_le (by rw [HN.out]; exact Nat.le_refl _)
            rw [htk] at p1j
            have hlook := kmj.wait_look (u := r.path) HP.out.2.2.2.2.2.2
            have hlr : refsOf gs r.path = r.refs := refsOf_mem HH.out.1 HP.out.2.2.2.2.2.1
            have HFIN := fun hs' hh => Lib.hid (p1j.leave (hs' := hs') hlr HP.out.2.1 hh)
            have HLEFT := Lib.hid (show ∀ p, (left p && decide (p ≠ r.path)) = true ↔ p ∈ paths gs ∧ p ∉ done ++ [r.path] from fun p => by
              rw [Bool.and_eq_true, HI.out.2.2.2.1 p]; simp [and_assoc])
            have HBF := Lib.hid (show ∀ q, (Uj q).length + rest gs (done ++ [r.path]) ≤ 1099511627776 ∧ Wj q + rest gs (done ++ [r.path]) ≤ 1099511627776 from fun q => by have := hbj q; omega)
            have k1 : ¬ (j : Int) < (j : Int) := by omega
            have hsl : hs.length < 1073741822 := by
              have h1 : (hs ++ [r.path]).length ≤ (paths gs).length := nodup_sub (by
                rw [List.nodup_append]
                refine ⟨p1j.nodup, by simp, ?_⟩
                intro a ha b hb
                simp at hb
                subst hb
                rintro rfl
                exact p1j.cur ((p1j.mem _).1 ha).1) (fun a ha => by
                rcases List.mem_append.1 ha with h2 | h2
                · exact p1j.sub a ((p1j.mem a).1 h2).1
                · simp at h2; subst h2; exact HP.out.2.1)
              unfold paths at h1
              rw [List.length_append, List.length_map] at h1
              have := HGL.out
              simp at h1
              omega
            have HKJ := Lib.hid (show KM w w1.heap.size w2.heap.size (w3.heap.size + 1) (paths gs) hv (.slice none 0 0) hs [] Wj Uj fj wr ∧ Rg wr b (w3.heap.size + 1 + 1) gs.length (gotF gs) (fun x => left x && decide (x ≠ r.path)) cnt' from ⟨kmj, rgj⟩)
            obtain ⟨x, hx⟩ : ∃ x, Wj r.path = x := ⟨_, rfl⟩
            rw [hx] at hlook
            have HX := Lib.hid hx
            clear kmj rgj p1j hbj htk HJ hlr hx hlt
            by_cases h0 : x = 0
            · subst h0
              go_wp2_with fail
              refine (Hp.hpushC (w3.heap.size + 1) hs.length hv hs r.path (by omega) wr HKJ.out.1.box (Tab.own_low HKJ.out.1.row)).mono ?_
              rintro e w8 ⟨rfl, g, cap, hx8, hr8, hk8, hat8⟩
              have hul : (upL (hs ++ [r.path]) hs.length).length = hs.length + 1 := by rw [Hp.upL_length, List.length_append]; rfl
              have hst := HKJ.out.1.heap_step (hs' := upL (hs ++ [r.path]) hs.length) (g := g) hk8 hx8 (by rw [hul]; exact hr8) rfl hat8
              have HST := Lib.hid hst
              clear hst hx8 hr8 hk8 hat8 hul
              go_wp2_with fail
              go_roundg cnt'
              case measure => exact HP.out.2.2.2.2.1
              case rel => exact ⟨_, _, done ++ [r.path], Wj, Uj, fj, _, Lib.hid ⟨HST.out.1, Fr.rg HST.out.2 HKJ.out.2 (by have := HZ.out; omega) (by have := HZ.out; omega), (HFIN (upL (hs ++ [r.path]) hs.length) (.inl ⟨HX.out, rfl⟩)).out, HLEFT.out, fun q => (HBF.out q).1, fun q => (HBF.out q).2⟩⟩
            · have e0 : ((x : Int) == 0) = false := by simp; omega
              have HX0 := Lib.hid h0
              clear h0
              go_wp2_with fail
              go_roundg cnt'
              case measure => exact HP.out.2.2.2.2.1
              case rel => exact ⟨hv, hs, done ++ [r.path], Wj, Uj, fj, _, Lib.hid ⟨HKJ.out.1, HKJ.out.2, (HFIN hs (.inr ⟨by rw [HX.out]; exact HX0.out, rfl⟩)).out, HLEFT.out, fun q => (HBF.out q).1, fun q => (HBF.out q).2⟩⟩
end Go.Proofs.YtmmmghpimdfleaaGreatDoor.St

set_option linter.unusedVariables false
namespace Go.Proofs.YtmmmghpimdfleaaGreatDoor.St
open Go.RowKit Mem Tr
open Go.Proofs.YtmmmghpimdfleaaGreatDoor.Own

def PostCutN (w : World) (rs : List Rec) (p : ByteArray) (e : Ending) (w' : World) : Prop :=
  Below w.heap.size w w' ∧ e = .returned (.int .i64 (if Sto.has rs p = true then 170 else 3))
set_option maxHeartbeats 1000000 in
set_option maxRecDepth 20000 in
theorem cutNoC (M F : Nat → Prop) (s : Nat) (rs : List Rec) (p : ByteArray) (w : World) (h : Is M F w s rs) (hn : rs.length ≤ 1073741823) (hu : Sto.has rs p = false ∨ refd rs p ≠ []) :
    Calls Tryz.prog 31 #[.pointer (some ⟨s, 0, none⟩), .string p] w (PostCutN w rs p) := by
  have hC := referrersC M F s rs p w h hn
  unfold PostCutN
  cases hB : Sto.has rs p with
  | false =>
    have HB := Lib.hid hB
    clear hu h hB
    go_enter Tryz.func31, Tryz.ntmps31
    go_wp2_with fail
    refine hC.mono ?_
    rintro e w1 ⟨b1, hm⟩
    rw [HB.out] at hm
    subst hm
    go_wp2_with fail
    go_ret
    exact ⟨b1, rfl⟩
  | true =>
    have HB := Lib.hid hB
    have hne : 0 < (refd rs p).length := List.length_pos_iff.2 (hu.resolve_left (by rw [hB]; decide))
    clear hu h hB
    go_enter Tryz.func31, Tryz.ntmps31
    go_wp2_with fail
    refine hC.mono ?_
    rintro e w1 ⟨b1, hm⟩
    rw [HB.out] at hm
    obtain ⟨v, rfl, hown⟩ := hm
    obtain ⟨ao, c, rfl⟩ := Tab.own_len hown
    obtain ⟨n, hn⟩ : ∃ n, (refd rs p).length = n := ⟨_, rfl⟩
    rw [hn] at hne ⊢
    have hn0 : (0 : Int) < (n : Int) := by omega
    clear hown hn
    go_wp2_with fail
    go_ret
    exact ⟨b1, rfl⟩
end Go.Proofs.YtmmmghpimdfleaaGreatDoor.St
