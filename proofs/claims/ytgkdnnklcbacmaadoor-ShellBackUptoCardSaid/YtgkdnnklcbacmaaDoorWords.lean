/-
  shell.Words gives the words of a line.
-/
import Derived.Test.YtgkdnnklcbacmaaDoorProg
import Derived.Test.YtgkdnnklcbacmaaDoorLib
import Derived.Test.YtgkdnnklcbacmaaDoorPlain
import Derived.Test.YtgkdnnklcbacmaaDoorSplit
import Derived.Test.YtgkdnnklcbacmaaDoorWordsP
import Derived.Shelf.Abstract
import Derived.Shelf.RegionOpen
import Derived.WalkKit
import Derived.OwnWalkIn
import Derived.TacticsInMore
import Derived.LoopNIn
import Derived.LoopIn
import Derived.Maps.AppendAt
import Derived.WalkLawsBesides
import Derived.WalkSpells
import Derived.Lib.Hide
import Derived.KernelRfl
set_option linter.unusedVariables false
namespace Go.Proofs.YtgkdnnklcbacmaaDoor.Words
open Go.RowKit Go.Shelf SplitP PlainP WordsP Rng
attribute [local go_sem] Oper.semAt_some

theorem infoStr : (Tryd.prog.info? 9).map (fun i => (i.zero, i.size, i.bytes)) = some (some (.string ⟨#[]⟩), 1, 16) := by kernel_rfl

/-- what stands between two rounds -/
def Inv (w : World) (hs : Nat) (pre : List ByteArray) (W : World) : Prop :=
  ∃ (v : Value) (ws : List (List UInt8)), all pre = some ws ∧ Boxed W (hs + 2) 23 v ∧ W.ownsRow (hs + 6) 9 1 v ws.length (ws.map strV) ∧ Boxed W hs 23 (.slice none 0 0) ∧ Boxed W (hs + 1) 24 (.int .i64 0) ∧ Below hs w W ∧ hs + 6 ≤ W.heap.size
def Bad (w : World) (hs : Nat) (c : Code) (pre : List ByteArray) (W : World) : Prop :=
  c = .ret ∧ all pre = none ∧ Boxed W hs 23 (.slice none 0 0) ∧ Boxed W (hs + 1) 24 (.int .i64 251) ∧ Below hs w W ∧ hs + 6 ≤ W.heap.size

theorem Inv.grown {w : World} {hs : Nat} {pre : List ByteArray} {W W' : World} {row : Option Nat} (h : Inv w hs pre W) (hg : W.grownBy W' row)
    (hr : ∀ r, row = some r → hs + 3 ≤ r ∧ (r < hs + 6 ∨ ∃ o : Obj, W.heap[r]? = some o ∧ o.isCells = false)) : Inv w hs pre W' := by
  obtain ⟨v, ws, h1, h2, h3, h4, h5, h6, h7⟩ := h
  refine ⟨v, ws, h1, h2.kept hg ?_, h3.kept hg ?_, h4.kept hg ?_, h5.kept hg ?_, h6.grown hg (by omega) (fun k e => by have := (hr k e).1; omega), Nat.le_trans h7 hg.size⟩
  · intro e; have := (hr _ e.symm).1; omega
  · rcases h3.2 with ⟨rfl, _⟩ | ⟨g, cap, cur, rfl, hb, hgb, _⟩
    · exact .inl rfl
    · refine .inr fun e' => ?_
      obtain ⟨_, h | ⟨o, ho, hc⟩⟩ := hr g (by simpa [Value.ownBlock] using e'.symm)
      · omega
      · rw [hgb] at ho; cases ho; cases hc
  · intro e; have := (hr _ e.symm).1; omega
  · intro e; have := (hr _ e.symm).1; omega
theorem Bad.grown {w : World} {hs : Nat} {c : Code} {pre : List ByteArray} {W W' : World} {row : Option Nat} (h : Bad w hs c pre W) (hg : W.grownBy W' row)
    (hr : ∀ r, row = some r → hs + 3 ≤ r) : Bad w hs c pre W' := by
  obtain ⟨h1, h2, h4, h5, h6, h7⟩ := h
  exact ⟨h1, h2, h4.kept hg (fun e => by have := hr _ e.symm; omega), h5.kept hg (fun e => by have := hr _ e.symm; omega), h6.grown hg (by omega) (fun k e => by have := hr k e; omega), Nat.le_trans h7 hg.size⟩

theorem row_mono {w : World} {B B' : Nat} {e : TypeId} {size : Nat} {v : Value} {n : Nat} {xs : List Value} (h : w.ownsRow B e size v n xs) (hB : B' ≤ B) : w.ownsRow B' e size v n xs := by
  obtain ⟨h1, h2⟩ := h
  refine ⟨h1, h2.imp id ?_⟩
  rintro ⟨g, cap, cur, hv, hb, r⟩
  exact ⟨g, cap, cur, hv, by omega, r⟩

theorem keepsOthers_below {W W1 : World} (h : Below W.heap.size W W1) : KeepsOthers W W1 := ⟨h.size, fun k _ hk _ => (h.block k (Array.getElem?_eq_some_iff.1 hk).1).trans hk⟩
theorem three_below {hs : Nat} {W W1 : World} (h : Below W.heap.size W W1) (hz : hs + 6 ≤ W.heap.size) : Split.Three (hs + 3) W W1 := fun j _ h2 => h.block j (by omega)

/-- 'out = append(out, s)': what the walk owes behind it. -/
theorem appended {w : World} {hs : Nat} {pre' : List ByteArray} {W1 w1 : World} {v v' : Value} {ws ws' : List (List UInt8)} {tmp : Obj}
    (hv : Boxed W1 (hs + 2) 23 v) (hrow : W1.ownsRow (hs + 6) 9 1 v ws.length (ws.map strV)) (hr0 : Boxed W1 hs 23 (.slice none 0 0)) (hr1 : Boxed W1 (hs + 1) 24 (.int .i64 0)) (hB : Below hs w W1) (hz : hs + 6 ≤ W1.heap.size)
    (hgrow : (W1.alloc tmp).grownBy w1 v.ownBlock) (hown : w1.ownsRow (hs + 6) 9 1 v' ws'.length (ws'.map strV)) (hall : all pre' = some ws') :
    Boxed w1 (hs + 2) 23 v ∧ (KeepsOthers W1 (w1.setCell ⟨hs + 2, 0, none⟩ v') ∧ Split.Three (hs + 3) W1 (w1.setCell ⟨hs + 2, 0, none⟩ v') ∧ Inv w hs pre' (w1.setCell ⟨hs + 2, 0, none⟩ v')) := by
  have hnr := hv.not_row (by decide) hrow
  have hlt : ∀ k, v.ownBlock = some k → hs + 6 ≤ k := fun k hk => (hrow.lt k hk).1
  have hv1 : Boxed w1 (hs + 2) 23 v := (hv.alloc tmp).kept hgrow hnr
  have far : ∀ j, j < hs + 6 → j ≠ hs + 2 → (w1.setCell ⟨hs + 2, 0, none⟩ v').heap[j]? = W1.heap[j]? := fun j hj hne => by
    rw [Below.heap_setCell _ _ _ _ hne, hgrow.block j (by simp; omega) (fun e => by have := hlt j e.symm; omega), Below.heap_alloc _ _ _ (by omega)]
  have hset := grownBy_setCell' w1 (hs + 2) v'
  refine ⟨hv1, ?_, fun j h1 h2 => far j (by omega) (by omega), ?_⟩
  · refine ((KeepsOthers.alloc W1 tmp).trans (KeepsOthers.of_grownBy hgrow fun j o ej hj => ?_)).trans (KeepsOthers.setCell _ _ _)
    rcases (hrow.alloc tmp).2 with ⟨rfl, _⟩ | ⟨g, cap, cur, rfl, _, hgb, _⟩
    · simp [Value.ownBlock] at ej
    · obtain rfl : g = j := by simpa [Value.ownBlock] using ej
      rw [hgb] at hj; cases hj; rfl
  · refine ⟨v', ws', hall, hv1.set v', hown.kept hset (.inr (hv1.not_row (by decide) hown).symm), (far _ (by omega) (by omega)).trans hr0, (far _ (by omega) (by omega)).trans hr1, ?_, ?_⟩
    · exact ((hB.alloc (by omega) tmp).grown hgrow (by simp; omega) (fun k e => by have := hlt k e; omega)).setCell (p := ⟨hs + 2, 0, none⟩) (by simp) v'
    · have := hgrow.size; simp at this ⊢; omega

set_option maxRecDepth 100000 in
set_option maxHeartbeats 4000000 in
theorem words_short (s : ByteArray) (w : World) (hs : s.size ≤ 4096) :
    Calls Tryd.prog 6 #[.string s] w fun e w' => ∃ v, e = .returned (.tuple #[v, .int .i64 (words s).2]) ∧ w'.ownsRow w.heap.size 9 1 v (words s).1.length ((words s).1.map strV) ∧ Below w.heap.size w w' := by
  refine (callsIn_wide (n := 5)).1 ?_
  obtain ⟨i0, hi, hz0, hz1, hz2⟩ := info_parts infoStr
  have t0 : ¬ (4096 : Int) < (s.size : Int) := by omega
  refine callsIn_of_wp_marks Tryd.func6 rfl trivial ?_ rfl
  simp only [Tryd.ntmps6, List.size_toArray, List.length_cons, List.length_nil, Nat.reduceAdd, Nat.reduceSub, Array.replicate_succ, Array.replicate_zero, List.push_toArray, List.append_toArray, List.nil_append, List.cons_append]
  gi_wp2_with (refine ⟨trivial, ?_⟩; gi_at_call 14; refine (callsIn_wide.2 (Split.splitSeq _ _)).mono ?_; rintro e w' ⟨rfl, rfl⟩)
  obtain ⟨W0, hW0⟩ : ∃ W0, ((((((w.alloc (Obj.cells #[Value.slice none 0 0] 23)).alloc (Obj.cells #[Value.int IntKind.i64 0] 24)).alloc (Obj.cells #[Value.slice none 0 0] 23)).alloc (Obj.cells #[Value.string s] 9)).alloc (Obj.cells #[Value.string { data := #[32] }] 9)).alloc (Obj.cells #[Value.int IntKind.i64 0] 3)) = W0 := ⟨_, rfl⟩
  have z0 : W0.heap.size = w.heap.size + 6 := by rw [← hW0]; simp
  have b0 : Boxed W0 w.heap.size 23 (.slice none 0 0) := by
    rw [← hW0]; exact (((((Boxed.new w _ _).alloc _).alloc _).alloc _).alloc _).alloc _
  have b1 : Boxed W0 (w.heap.size + 1) 24 (.int .i64 0) := by
    have := Boxed.new (w.alloc (Obj.cells #[Value.slice none 0 0] 23)) 24 (.int .i64 0)
    rw [World.size_alloc] at this
    rw [← hW0]; exact (((this.alloc _).alloc _).alloc _).alloc _
  have b2 : Boxed W0 (w.heap.size + 2) 23 (.slice none 0 0) := by
    have := Boxed.new ((w.alloc (Obj.cells #[Value.slice none 0 0] 23)).alloc (Obj.cells #[Value.int IntKind.i64 0] 24)) 23 (.slice none 0 0)
    rw [World.size_alloc, World.size_alloc] at this
    rw [← hW0]; exact (((this.alloc _).alloc _).alloc _)
  have b3 : Boxed W0 (w.heap.size + 3) 9 (.string s) := by
    have := Boxed.new (((w.alloc (Obj.cells #[Value.slice none 0 0] 23)).alloc (Obj.cells #[Value.int IntKind.i64 0] 24)).alloc (Obj.cells #[Value.slice none 0 0] 23)) 9 (.string s)
    rw [World.size_alloc, World.size_alloc, World.size_alloc] at this
    rw [← hW0]; exact ((this.alloc _).alloc _)
  have b4 : Boxed W0 (w.heap.size + 4) 9 (.string ⟨#[32]⟩) := by
    have := Boxed.new ((((w.alloc (Obj.cells #[Value.slice none 0 0] 23)).alloc (Obj.cells #[Value.int IntKind.i64 0] 24)).alloc (Obj.cells #[Value.slice none 0 0] 23)).alloc (Obj.cells #[Value.string s] 9)) 9 (.string ⟨#[32]⟩)
    rw [World.size_alloc, World.size_alloc, World.size_alloc, World.size_alloc] at this
    rw [← hW0]; exact this.alloc _
  have b5 : Boxed W0 (w.heap.size + 5) 3 (.int .i64 0) := by
    have := Boxed.new (((((w.alloc (Obj.cells #[Value.slice none 0 0] 23)).alloc (Obj.cells #[Value.int IntKind.i64 0] 24)).alloc (Obj.cells #[Value.slice none 0 0] 23)).alloc (Obj.cells #[Value.string s] 9)).alloc (Obj.cells #[Value.string { data := #[32] }] 9)) 3 (.int .i64 0)
    rw [World.size_alloc, World.size_alloc, World.size_alloc, World.size_alloc, World.size_alloc] at this
    rw [← hW0]; exact this
  have bB : Below w.heap.size w W0 := by
    rw [← hW0]; exact ((((((Below.refl _ w).alloc (Nat.le_refl _) _).alloc (by simp) _).alloc (by simp; omega) _).alloc (by simp; omega) _).alloc (by simp; omega) _).alloc (by simp; omega) _
  rw [hW0]
  clear hW0
  refine range_law (gf := 24) (lb := #[.pointer (some ⟨w.heap.size + 3 + 1, 0, none⟩), .pointer (some ⟨w.heap.size + 3, 0, none⟩), .pointer (some ⟨w.heap.size + 3 + 2, 0, none⟩)]) rfl (enters_of Tryd.func24 (by kernel_rfl) rfl)
    (Split.gives 4 (by omega) (w.heap.size + 3) s W0 (by omega) (by omega) b3 b4 b5)
    (fun A B hm k o hk ho hc => (hm.block k (Array.getElem?_eq_some_iff.1 ho).1 (by rw [ne_eq, Option.some.injEq]; omega)).trans ho)
    (fun h1 h2 j hj hj' => (h2 j hj hj').trans (h1 j hj hj'))
    (fun W l o o' hl ho hc j hj hj' => World.putObj_heap_other (by omega))
    (fun x => rfl)
    (Inv w w.heap.size) (Bad w w.heap.size)
    (fun s A B row h hg hr => h.grown hg (fun r e => ⟨by have := (hr r e).1; omega, .inr (hr r e).2⟩))
    (fun c s A B row h hg hr => h.grown hg (fun r e => by have := (hr r e).1; omega))
    (fun s A B h hm => h.grown hm (fun r e => by simp only [Option.some.injEq] at e; omega))
    (fun c s A B h hm => h.grown hm (fun r e => by simp only [Option.some.injEq] at e; omega))
    ⟨_, [], rfl, b2, World.ownsRow_nil _ _ _ _, b0, b1, bB, by omega⟩
    (fun x => { tmps := #[.string s, undef, .pointer (some ⟨w.heap.size, 0, none⟩), .pointer (some ⟨w.heap.size + 1, 0, none⟩), .pointer (some ⟨w.heap.size + 2, 0, none⟩), .string x, undef, undef, .string s, .int .i64 s.size, .bool false, .string s,
      .func (.func 24) #[] #[.pointer (some ⟨w.heap.size + 3 + 1, 0, none⟩), .pointer (some ⟨w.heap.size + 3, 0, none⟩), .pointer (some ⟨w.heap.size + 3 + 2, 0, none⟩)], .string x, undef, undef, undef, undef, undef, undef, undef, undef, undef, undef, undef, undef], defers := [] }) ?assign ?body ?done ?stop
  case assign =>
    intro l x W K hK
    gi_wp2
    exact hK
  case body =>
    rintro l pre x W hI hpre
    have hx : x.size ≤ 1073741824 := by
      have hmem : x ∈ parts s := hpre.subset (by simp)
      obtain ⟨p, hp, rfl⟩ := List.mem_map.1 hmem
      have := mem_pieces _ _ hp
      have h2 : (SplitP.bytes p).size = p.length := by simp [SplitP.bytes, ByteArray.size]
      rw [h2]
      rw [← Lib.size_eq] at this
      omega
    have hI0 := hI
    obtain ⟨v, ws, hall, hv, hrow, hr0, hr1, hB, hz⟩ := hI
    have hlen : ws.length ≤ 4097 := by
      have h1 := all_length hall
      have h2 := hpre.length_le
      have h3 : (parts s).length ≤ s.size + 1 := by unfold parts; rw [List.length_map, Lib.size_eq]; exact length_pieces _
      simp at h2
      omega
    cases hw : word x.data.toList with
    | none =>
      have Hw := Lib.hid hw
      have hbad : all (pre ++ [x]) = none := by rw [all_snoc, hall, hw]
      have Hbad := Lib.hid hbad
      have Hall := Lib.hid hall
      clear hw hall hbad
      gi_wp2_with fail
      refine ⟨trivial, (CallsIn.inRound l (callsIn_wide.2 (Plain.plain x _ hx))).mono ?_⟩
      rintro e W1 ⟨rfl, hb1⟩
      rw [Hw.out, show Plain.res none = .tuple #[.string ⟨#[]⟩, .bool false] from rfl]
      have q0 : Boxed W1 w.heap.size 23 (.slice none 0 0) := (hb1.block _ (by omega)).trans hr0
      have q1 : Boxed W1 (w.heap.size + 1) 24 (.int .i64 0) := (hb1.block _ (by omega)).trans hr1
      have d0 := q0.cell
      have d1 := q1.cell
      have f0 := q0.frozen
      have f1 := q1.frozen
      gi_wp2_with fail
      have q0' := q0.set (.slice none 0 0)
      have q1a := q1.kept (grownBy_setCell' W1 w.heap.size (.slice none 0 0)) (by simp)
      have q1' := q1a.set (.int .i64 251)
      have q0'' := q0'.kept (grownBy_setCell' _ (w.heap.size + 1) (.int .i64 251)) (by simp)
      refine ⟨(((keepsOthers_below hb1).trans (KeepsOthers.setCell _ _ _)).trans (KeepsOthers.setCell _ _ _)).from _, rfl, Hbad.out, q0'', q1', ?_, ?_⟩
      · exact ((hB.trans (hb1.mono (by omega))).setCell (p := ⟨w.heap.size, 0, none⟩) (Nat.le_refl _) _).setCell (p := ⟨w.heap.size + 1, 0, none⟩) (by simp) _
      · have := hb1.size; simp; omega
    | some a =>
      have Hw := Lib.hid hw
      have hok : all (pre ++ [x]) = some (ws ++ [a]) := by rw [all_snoc, hall, hw]
      have Hok := Lib.hid hok
      have Hall := Lib.hid hall
      clear hw hall hok
      gi_wp2_with fail
      refine ⟨trivial, (CallsIn.inRound l (callsIn_wide.2 (Plain.plain x _ hx))).mono ?_⟩
      rintro e W1 ⟨rfl, hb1⟩
      rw [Hw.out, show Plain.res (some a) = .tuple #[.string ⟨a.toArray⟩, .bool true] from rfl]
      have hI1 := hI0.grown (Lb.grown_below hb1) (fun r e => by cases e)
      have q2 : Boxed W1 (w.heap.size + 2) 23 v := (hb1.block _ (by omega)).trans hv
      have row1 := Lb.row_below hrow hb1
      have d2 := q2.cell
      have hs1 := hb1.size
      gi_wp2_with (gi_at_builtin; refine wpListIn_append_own _ rfl _ _ 23 rfl (w.heap.size + 6) 9 i0 (.string ⟨#[]⟩) 1 16 Tryd.underlying23 hi hz0 hz1 hz2 rfl (by decide) _ _ _ rfl (row1.alloc _) ⟨W1.heap.size, 0, none⟩ 1 1 [.string ⟨a.toArray⟩] rfl rfl (cell_one_new _ _ _) (by simp [Value.oneCell']) (by unfold maxLen; omega) (by omega) (by simp; omega) ?_; intro v' w1 hown' hgrow _; obtain ⟨g', cap', rfl⟩ := ownsRow_succ hown'; have hgrow' : (W1.alloc _).grownBy w1 v.ownBlock := hgrow; clear hgrow; obtain ⟨hq, hfin⟩ := appended (pre' := pre ++ [x]) (ws' := ws ++ [a]) q2 row1 ((hb1.block _ (by omega)).trans hr0) ((hb1.block _ (by omega)).trans hr1) (hB.trans (hb1.mono (by omega))) (by omega) hgrow' (by simpa [strV] using hown') Hok.out; have Hfin := Lib.hid hfin; clear hfin; have d2' := hq.cell; have f2' := hq.frozen)
      obtain ⟨k1, k2, k3⟩ := Hfin.out
      exact ⟨((keepsOthers_below hb1).trans k1).from _, fun j h1 h2 => (k2 j h1 h2).trans (three_below hb1 (by omega) j h1 h2), k3⟩
  case done =>
    rintro D W hD ⟨v, ws, hall, hv, hrow, hr0, hr1, hB, hz⟩ hK
    have hwords : words s = (ws, 0) := by unfold words; rw [if_neg (by omega), hall]
    have Hwords := Lib.hid hwords
    have d0 := hr0.cell
    have d1 := hr1.cell
    have d2 : W.cell? ⟨w.heap.size + 1 + 1, 0, none⟩ = some v := hv.cell
    have f0 := hr0.frozen
    have f1 := hr1.frozen
    clear hwords hall
    obtain ⟨ao, n, cap, rfl⟩ : ∃ ao n cap, v = .slice ao n cap := by
      rcases hrow.2 with ⟨hv, _⟩ | ⟨g, cap, cur, hv, _⟩
      · exact ⟨_, _, _, hv⟩
      · exact ⟨_, _, _, hv⟩
    gi_wp2_with fail
    have q0' := hr0.set (.slice ao n cap)
    have q1a := hr1.kept (grownBy_setCell' W w.heap.size (.slice ao n cap)) (by simp)
    have q1' := q1a.set (.int .i64 0)
    have q0'' := q0'.kept (grownBy_setCell' _ (w.heap.size + 1) (.int .i64 0)) (by simp)
    have hK' := (KeepsOthers.setCell (W.setCell ⟨w.heap.size, 0, none⟩ (.slice ao n cap)) ⟨w.heap.size + 1, 0, none⟩ (.int .i64 0)).same D _ ((KeepsOthers.setCell W ⟨w.heap.size, 0, none⟩ (.slice ao n cap)).same D _ hK rfl) rfl
    have hrow1 : ((W.setCell ⟨w.heap.size, 0, none⟩ (.slice ao n cap)).setCell ⟨w.heap.size + 1, 0, none⟩ (.int .i64 0)).ownsRow (w.heap.size + 6) 9 1 (.slice ao n cap) ws.length (ws.map strV) := by
      have h1 := ownsRow_setCell_below hrow (a := ⟨w.heap.size, 0, none⟩) (by simp) (.slice ao n cap)
      exact ownsRow_setCell_below h1 (a := ⟨w.heap.size + 1, 0, none⟩) (by simp) (.int .i64 0)
    refine ⟨by simp, .inl ⟨_, _, rfl, run_takeDeferred hK', ?_⟩⟩
    have p0 := cell_kept q0''.cell (grownBy_putObj' _ D (.deferred none)) (fun r e => by cases e; exact ⟨_, hK', rfl⟩)
    have p1 := cell_kept q1'.cell (grownBy_putObj' _ D (.deferred none)) (fun r e => by cases e; exact ⟨_, hK', rfl⟩)
    refine ⟨.tuple #[.slice ao n cap, .int .i64 0], ?_, .slice ao n cap, by rw [Hwords.out], ?_, ?_⟩
    · simp [results, Tryd.f6, go_sem, p0, p1]
    · rw [Hwords.out]
      exact row_mono (ownsRow_putObj hrow1 _ hK' rfl) (by omega)
    · have b1 := (hB.setCell (p := ⟨w.heap.size, 0, none⟩) (Nat.le_refl _) (.slice ao n cap)).setCell (p := ⟨w.heap.size + 1, 0, none⟩) (by simp) (.int .i64 0)
      exact b1.trans ((Below.refl w.heap.size _).grown (grownBy_putObj' _ D _) (by have := b1.size; omega) (fun k e => by cases e; omega))
  case stop =>
    rintro D c pre W hD hpre ⟨rfl, hbad, hr0, hr1, hB, hz⟩ hK
    have hwords : words s = ([], 251) := by unfold words; rw [if_neg (by omega), all_pre_none hbad hpre]
    have Hwords := Lib.hid hwords
    have d0 := hr0.cell
    have d1 := hr1.cell
    clear hwords hbad
    gi_wp2_with fail
    refine ⟨by simp, .inl ⟨_, _, rfl, run_takeDeferred hK, ?_⟩⟩
    have p0 := cell_kept d0 (grownBy_putObj' W D (.deferred none)) (fun r e => by cases e; exact ⟨_, hK, rfl⟩)
    have p1 := cell_kept d1 (grownBy_putObj' W D (.deferred none)) (fun r e => by cases e; exact ⟨_, hK, rfl⟩)
    refine ⟨.tuple #[.slice none 0 0, .int .i64 251], ?_, _, by rw [Hwords.out], by rw [Hwords.out]; exact World.ownsRow_nil _ _ _ _, ?_⟩
    · simp [results, Tryd.f6, go_sem, p0, p1]
    · exact hB.trans ((Below.refl w.heap.size W).grown (grownBy_putObj' W D _) (by omega) (fun k e => by cases e; omega))

set_option maxRecDepth 100000 in
theorem words_long (s : ByteArray) (w : World) (hs : 4096 < s.size) (hm : s.size ≤ 9223372036854775807) :
    Calls Tryd.prog 6 #[.string s] w fun e w' => ∃ v, e = .returned (.tuple #[v, .int .i64 (words s).2]) ∧ w'.ownsRow w.heap.size 9 1 v (words s).1.length ((words s).1.map strV) ∧ Below w.heap.size w w' := by
  have hw : words s = ([], 6) := by unfold words; rw [if_pos hs]
  rw [hw]
  have t0 : (4096 : Int) < (s.size : Int) := by omega
  clear hw
  go_enter Tryd.func6, Tryd.ntmps6
  go_wp2
  refine bodyPost_ret (v := .tuple #[.slice none 0 0, .int .i64 6]) ?_ rfl ⟨_, rfl, World.ownsRow_nil _ _ _ _, ?_⟩
  · simp [results, Tryd.results6, go_sem]
  · repeat (first | exact Below.refl _ _ | refine Below.setCell ?_ (by simp) _ | refine Below.alloc ?_ (by simp) _)

theorem call_words (s : ByteArray) (w : World) (hm : s.size ≤ 9223372036854775807) :
    Calls Tryd.prog 6 #[.string s] w fun e w' => ∃ v, e = .returned (.tuple #[v, .int .i64 (words s).2]) ∧ w'.ownsRow w.heap.size 9 1 v (words s).1.length ((words s).1.map strV) ∧ Below w.heap.size w w' := by
  by_cases h : s.size ≤ 4096
  · exact words_short s w h
  · exact words_long s w (by omega) hm
end Go.Proofs.YtgkdnnklcbacmaaDoor.Words
