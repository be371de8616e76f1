/-
  depotref17.Twin: the same record in memory of its own (printed by tools/mktwin.py).
-/
import Derived.Test.YtmmmghpimdfleaaGreatDoorClone
import Derived.Test.YtmmmghpimdfleaaGreatDoorGetW
import Derived.Test.YtmmmghpimdfleaaGreatDoorGrpP
import Derived.Test.YtmmmghpimdfleaaGreatDoorGrpQ
import Derived.Test.YtmmmghpimdfleaaGreatDoorGrpY
import Derived.Test.YtmmmghpimdfleaaGreatDoorAppT
import Derived.Test.YtmmmghpimdfleaaGreatDoorAppS
set_option linter.unusedVariables false
set_option linter.unusedSimpArgs false
namespace Go.Proofs.YtmmmghpimdfleaaGreatDoor.Twin
open Go.RowKit Mem Tr St
open Go.Proofs.YtmmmghpimdfleaaGreatDoor.Own

/-- the record ahead of its tree and its references -/
def bare (r : Rec) : Rec := { r with tree := ⟨0, false, ⟨#[]⟩, .nil⟩, refs := [] }

theorem setTree {w : World} {b : Nat} {r : Rec} {T : Tree} {kv kv' rv : Value} (h : RB w b r kv rv) : RB ((((w.setCell ⟨b, 1, none⟩ (.int .i64 T.kind)).setCell ⟨b, 2, none⟩ (.bool T.exec)).setCell ⟨b, 3, none⟩ (.string T.text)).setCell ⟨b, 4, none⟩ kv') b { r with tree := T } kv' rv := by
  refine ⟨?_, h.hl⟩
  have := (((h.bx.set 1 (.int .i64 T.kind)).set 2 (.bool T.exec)).set 3 (.string T.text)).set 4 kv'
  unfold Rec.cells at *
  simpa using this
theorem kp_setTree {w : World} {b : Nat} (v1 v2 v3 v4 : Value) : Kp (fun q => q = b) w ((((w.setCell ⟨b, 1, none⟩ v1).setCell ⟨b, 2, none⟩ v2).setCell ⟨b, 3, none⟩ v3).setCell ⟨b, 4, none⟩ v4) :=
  ((((Kp.refl (fun q => q = b) w).setCell ⟨b, 1, none⟩ _ (fun _ => rfl)).setCell ⟨b, 2, none⟩ _ (fun _ => rfl)).setCell ⟨b, 3, none⟩ _ (fun _ => rfl)).setCell ⟨b, 4, none⟩ _ (fun _ => rfl)

section
variable {P : Program}
theorem wpList_append_run {ops : Array Oper} {rest : List Oper} {o : Oper} {a : Act} {w : World} {Q : Exit → Act → World → Prop} (hg : o.guard = none) (s x : Operand) (t : TypeId) (hop : o.op = .call { callee := .builtin .append, args := #[s, x], argTypes := #[t, t] })
    (v u v' : Value) (w' : World) (hs : a.eval s = v) (hx : a.eval x = u) (hrun : (Builtin.append_ #[t, t] o.type #[v, u]).run P w = .ok v' w') (h : wpList P ops Q rest (a.put o.dst v') w') : wpList P ops Q (o :: rest) a w :=
  wpList_step fun K hK => AppS.step_append_own hg s x t hop v u v' w' hs hx hrun (hK _ _ h)
end
set_option maxHeartbeats 4000000 in
set_option maxRecDepth 20000 in
theorem twinC (S : Nat → Prop) (r : Rec) (cs : List Value) (w : World) (h : RecAt S w cs r) (hcap : ∀ kv n cap, cs = r.cells kv (.slice none n cap) → cap = 0) (hb : r.bulk ≤ 2097152) :
    Calls Tryz.prog 56 #[.agg cs.toArray] w fun e w' => ∃ cs', e = .returned (.agg cs'.toArray) ∧ RecW (w.heap.size ≤ ·) w' cs' r ∧ Below w.heap.size w w' := by
  have hl := h.length
  obtain ⟨kv, rv, hcs, hh, hk, hr⟩ := h
  have HCAP := Lib.hid (show ∀ n cap, rv = .slice none n cap → cap = 0 from fun n cap e => hcap kv n cap (by rw [hcs, e]))
  have HK := Lib.hid hk
  have HR := Lib.hid hr
  have HCS := Lib.hid hcs
  obtain ⟨ao, cap, rfl, _, _, _⟩ := hk
  obtain ⟨ao2, cap2, rfl, _, _, _⟩ := hr
  obtain ⟨q0, q1, q2, q3, q4, q5⟩ := recFields hcs.symm hl hh
  have q38 := recSize hcs.symm hl hh
  have F := alloc_fact2 (w := w) (z := cs.toArray) (z2 := Ins.zeroRec.cells) (t := 31) (t2 := 31) rfl
  have XA : Hid (RB _ w.heap.size r (.slice ao r.tree.kids.len cap) (.slice ao2 r.refs.length cap2)) := Lib.hid ⟨by rw [← HCS.out]; exact F.2.1, hh⟩
  have YA := Lib.hid F.2.2
  have BW := Lib.hid F.1
  have r1 := XA.out.hash
  obtain ⟨RA, hRA⟩ : ∃ RC, Lib.byteCells r.hash = RC := ⟨_, rfl⟩
  have hRAl : RA.length = 32 := by rw [← hRA, Lib.byteCells_length, hh]
  have hRAo : ∀ v ∈ RA, v.oneCell' = true := by rw [← hRA]; exact bytes_one _
  rw [hRA] at r1
  have hu := Tryz.underlying29
  have hf2 : (List.foldl (fun (a : Array Value) (x : Value × Nat) => a.setIfInBounds (6 + x.snd) x.fst) #[Value.string r.path, .int .i64 0, .bool false, .string ⟨#[]⟩, .slice none 0 0, .slice none 0 0, .int .u8 0, .int .u8 0, .int .u8 0, .int .u8 0, .int .u8 0, .int .u8 0, .int .u8 0, .int .u8 0, .int .u8 0, .int .u8 0, .int .u8 0, .int .u8 0, .int .u8 0, .int .u8 0, .int .u8 0, .int .u8 0, .int .u8 0, .int .u8 0, .int .u8 0, .int .u8 0, .int .u8 0, .int .u8 0, .int .u8 0, .int .u8 0, .int .u8 0, .int .u8 0, .int .u8 0, .int .u8 0, .int .u8 0, .int .u8 0, .int .u8 0, .int .u8 0, .int .i64 0] RA.zipIdx).setIfInBounds 38 (.int .i64 r.size) = _ := build39 (.string r.path) (.int .i64 0) (.bool false) (.string ⟨#[]⟩) (.slice none 0 0) (.slice none 0 0) (.int .i64 0) (.int .i64 r.size) (List.replicate 32 (.int .u8 0)) RA hRAl rfl
  have hsz : (List.foldl (fun (a : Array Value) (x : Value × Nat) => a.setIfInBounds (6 + x.snd) x.fst) #[Value.string r.path, .int .i64 0, .bool false, .string ⟨#[]⟩, .slice none 0 0, .slice none 0 0, .int .u8 0, .int .u8 0, .int .u8 0, .int .u8 0, .int .u8 0, .int .u8 0, .int .u8 0, .int .u8 0, .int .u8 0, .int .u8 0, .int .u8 0, .int .u8 0, .int .u8 0, .int .u8 0, .int .u8 0, .int .u8 0, .int .u8 0, .int .u8 0, .int .u8 0, .int .u8 0, .int .u8 0, .int .u8 0, .int .u8 0, .int .u8 0, .int .u8 0, .int .u8 0, .int .u8 0, .int .u8 0, .int .u8 0, .int .u8 0, .int .u8 0, .int .u8 0, .int .i64 0] RA.zipIdx).size = 39 := fold_size (fun x => 6 + x.snd) _ _
  obtain ⟨CS, hCS⟩ : ∃ CS, [Value.string r.path, .int .i64 0, .bool false, .string ⟨#[]⟩, .slice none 0 0, .slice none 0 0] ++ (RA ++ [.int .i64 r.size]) = CS := ⟨_, rfl⟩
  rw [hCS] at hf2
  have HBARE := Lib.hid (show CS = (bare r).cells (.slice none 0 0) (.slice none 0 0) by rw [← hCS, ← hRA]; rfl)
  have hCSl : CS.length = 39 := by rw [← hCS]; simp [hRAl]
  have hCSo : ∀ v ∈ CS, v.oneCell' = true := by
    rw [← hCS]
    intro v hv
    simp only [List.mem_append, List.mem_cons, List.not_mem_nil, or_false] at hv
    rcases hv with (rfl | rfl | rfl | rfl | rfl | rfl) | (hv | rfl)
    · rfl
    · rfl
    · rfl
    · rfl
    · rfl
    · rfl
    · exact hRAo v hv
    · rfl
  have HWF := Lib.hid (show ∀ W, ((((w.alloc (.cells cs.toArray 31)).alloc (.cells Ins.zeroRec.cells 31)).alloc (.cells Ins.zeroRec.cells 31)).setCells (w.heap.size + 1 + 1) 0 CS = W) → Hid (Below w.heap.size w W ∧ RB W w.heap.size r (.slice ao r.tree.kids.len cap) (.slice ao2 r.refs.length cap2) ∧ Bx W (w.heap.size + 1) Ins.zeroRec.cells 31 ∧ RB W (w.heap.size + 2) (bare r) (.slice none 0 0) (.slice none 0 0)) from fun W hW => by
    have hz : ((w.alloc (.cells cs.toArray 31)).alloc (.cells Ins.zeroRec.cells 31)).heap.size = w.heap.size + 1 + 1 := by simp
    have hst := stash (w2 := (w.alloc (.cells cs.toArray 31)).alloc (.cells Ins.zeroRec.cells 31)) (Z := Ins.zeroRec.cells) (T := 31) (cs := CS) (W := W) (by rw [hz]; exact hW)
    have hbx := stash_bx (w2 := (w.alloc (.cells cs.toArray 31)).alloc (.cells Ins.zeroRec.cells 31)) (Z := Ins.zeroRec.cells) (T := 31) (cs := CS) (W := W) (by rw [hz]; exact hW) (by rw [hCSl]; rfl)
    rw [hz] at hbx
    exact Lib.hid ⟨BW.out.trans (hst.mono BW.out.size), XA.out.below hst, YA.out.below hst, ⟨by rw [← HBARE.out]; exact hbx, hh⟩⟩)
  clear F hcs hcap hRA hCS
  go_enter Tryz.func56, Tryz.ntmps56
  go_wp2_with (first
    | (refine wpList_load_mid rfl 29 _ (by rfl) w.heap.size 6 (by rfl) RA _ r1 hu rfl (by rw [hRAl]; kernel_rfl) ?_)
    | (refine wpList_store_mid (by rfl) 31 _ _ (by rfl) (w.heap.size + 1 + 1) 0 CS.toArray (by rfl) (by rfl) ?h4 ?h5 ?h6 ?_; rotate_right; refine Mem.named ?_; intro W hW; have FW := HWF.out W hW; clear hW; have g1 := FW.out.2.1.c1; have g2 := FW.out.2.1.c2; have g3 := FW.out.2.1.c3; have g4 := FW.out.2.1.c4))
  case h4 =>
    have := Bx.new ((w.alloc (.cells cs.toArray 31)).alloc (.cells Ins.zeroRec.cells 31)) Ins.zeroRec.cells 31
    rw [show ((w.alloc (.cells cs.toArray 31)).alloc (.cells Ins.zeroRec.cells 31)).heap.size = w.heap.size + 1 + 1 by simp] at this
    first | exact this.there 39 rfl | exact this.there _ (by rw [show CS.toArray.size = 39 by simpa using hCSl]; rfl)
  case h5 => first | exact infoEx | (rw [List.size_toArray, hCSl]; kernel_rfl)
  case h6 => first | exact hCSo | exact all_oneCell_toArray hCSo
  have BWW := FW.out.1
  clear g1 g2 g3 g4 q0 q1 q2 q3 q4 q5 q38 hf2 hsz r1 HWF
  have hbt : r.tree.bulk ≤ 4194304 := by unfold Rec.bulk at hb; omega
  refine (Clone.cloneC S r.tree (.slice ao r.tree.kids.len cap) W (HK.out.below BWW) hbt).mono ?_
  rintro e w2 ⟨kv', rfl, hk2, b2⟩
  have HK2 := Lib.hid hk2
  obtain ⟨ao3, cap3, rfl, _, _, _⟩ := hk2
  have X2 := Lib.hid (FW.out.2.1.below b2)
  have Y2 := Lib.hid (FW.out.2.2.1.below b2)
  have Z2 := Lib.hid (FW.out.2.2.2.below b2)
  have B2 := BWW.trans (b2.mono BWW.size)
  have s0 : w.heap.size + 3 ≤ W.heap.size := FW.out.2.2.2.bx.lt
  have S0 := Lib.hid s0
  have g1 : w2.cell? ⟨w.heap.size + 1 + 1, 1, none⟩ = some (.int .i64 (bare r).tree.kind) := Z2.out.c1
  have g2 : w2.cell? ⟨w.heap.size + 1 + 1, 2, none⟩ = some (.bool (bare r).tree.exec) := Z2.out.c2
  have g3 : w2.cell? ⟨w.heap.size + 1 + 1, 3, none⟩ = some (.string (bare r).tree.text) := Z2.out.c3
  have g4 : w2.cell? ⟨w.heap.size + 1 + 1, 4, none⟩ = some (.slice none 0 0) := Z2.out.c4
  have f1 := Z2.out.bx.frozen 1
  have f2 := Z2.out.bx.frozen 2
  have f3 := Z2.out.bx.frozen 3
  have f4 := Z2.out.bx.frozen 4
  obtain ⟨W3, hW3⟩ : ∃ W, (((w2.setCell ⟨w.heap.size + 1 + 1, 1, none⟩ (.int .i64 r.tree.kind)).setCell ⟨w.heap.size + 1 + 1, 2, none⟩ (.bool r.tree.exec)).setCell ⟨w.heap.size + 1 + 1, 3, none⟩ (.string r.tree.text)).setCell ⟨w.heap.size + 1 + 1, 4, none⟩ (.slice ao3 r.tree.kids.len cap3) = W := ⟨_, rfl⟩
  have Z3 : Hid (RB W3 (w.heap.size + 2) { bare r with tree := r.tree } (.slice ao3 r.tree.kids.len cap3) (.slice none 0 0)) := Lib.hid (by rw [← hW3]; exact setTree Z2.out)
  have k3 : Kp (fun q => q = w.heap.size + 2) w2 W3 := by rw [← hW3]; exact kp_setTree _ _ _ _
  have X3 := Lib.hid (X2.out.kp k3 (by omega))
  have Y3 := Lib.hid (Y2.out.kp k3 (by omega))
  have B3 : Below w.heap.size w W3 := B2.trans (k3.below B2.size (fun i hi e => by omega))
  have b2s := b2.size
  have k3s := k3.size
  have hrl : r.refs.length ≤ 2097152 := by have := length_bulks r.refs; unfold Rec.bulk at hb; omega
  obtain ⟨rv', w4, hrun, hown4, hg4⟩ := AppT.app_texts (w := W3) (B := W3.heap.size) (World.ownsRow_nil _ _ _ _) (((HR.out.sub (S' := fun q => q < w.heap.size) (fun q hq _ => hq)).below B2).ag (Ag.of_kp k3 (fun q _ hq e => by omega))) HCAP.out (by omega) (Nat.le_refl _)
  rw [Nat.zero_add, List.nil_append] at hown4
  have b4 : Below W3.heap.size W3 w4 := (Below.refl _ W3).grown hg4 (Nat.le_refl _) (fun k e => by cases e)
  obtain ⟨ao5, cap5, rfl⟩ := Tab.own_len hown4
  have X4 := Lib.hid (X3.out.below b4)
  have Y4 := Lib.hid (Y3.out.below b4)
  have Z4 := Lib.hid (Z3.out.below b4)
  have g5 : w4.cell? ⟨w.heap.size + 1 + 1, 5, none⟩ = some (.slice none 0 0) := Z4.out.c5
  have f5 := Z4.out.bx.frozen 5
  have c5a : W3.cell? ⟨w.heap.size, 5, none⟩ = some (.slice ao2 r.refs.length cap2) := X3.out.c5
  have c5b : W3.cell? ⟨w.heap.size + 1 + 1, 5, none⟩ = some (.slice none 0 0) := Z3.out.c5
  obtain ⟨cs5, hcs5⟩ : ∃ cs, r.cells (.slice ao3 r.tree.kids.len cap3) (.slice ao5 r.refs.length cap5) = cs := ⟨_, rfl⟩
  have HC5 := Lib.hid hcs5
  have Z5 : Hid (Bx (w4.setCell ⟨w.heap.size + 2, 5, none⟩ (.slice ao5 r.refs.length cap5)) (w.heap.size + 2) cs5.toArray 31) := Lib.hid (by rw [← hcs5]; exact (Z4.out.setR _).bx)
  have h5l : cs5.length = 39 := by rw [← hcs5]; simp [Rec.cells, Lib.byteCells, hh]
  have h5o := Z5.out.range
  have Y5 := Lib.hid (Y4.out.set_other (p := ⟨w.heap.size + 2, 5, none⟩) (.slice ao5 r.refs.length cap5) (by show w.heap.size + 1 ≠ w.heap.size + 2; omega))
  have h1o : ∀ v ∈ cs5, v.oneCell' = true := by rw [← hcs5]; exact cells_one rfl rfl
  rw [List.toList_toArray] at h5o
  clear hcs5

  unfold Sum.nodeV
  simp only [show (w.heap.size + 2) = w.heap.size + 1 + 1 from rfl] at h5o Y5
  go_wp2_with (first
    | (at_builtin; refine wpList_append_run rfl _ _ 27 rfl _ _ _ _ rfl rfl hrun ?_)
    | (refine wpList_load_mid rfl 31 _ (by rfl) (w.heap.size + 1 + 1) 0 (by rfl) cs5 _ h5o Tryz.underlying31 rfl (by rw [h5l]; kernel_rfl) ?_)
    | (refine wpList_store_mid (by rfl) 31 _ _ (by rfl) (w.heap.size + 1) 0 cs5.toArray (by rfl) (by rfl) ?h4 ?h5 ?h6 ?_; rotate_right; refine Mem.named ?_; intro W9 hW9))
  case h4 => first | exact Y5.out.there 39 rfl | exact Y5.out.there _ (by rw [show cs5.toArray.size = 39 by simpa using h5l]; rfl)
  case h5 => first | exact infoEx | (rw [List.size_toArray, h5l]; kernel_rfl)
  case h6 => first | exact h1o | exact all_oneCell_toArray h1o
  have k45 : Kp (fun b => b = w.heap.size + 2) w4 (w4.setCell ⟨w.heap.size + 1 + 1, 5, none⟩ (.slice ao5 r.refs.length cap5)) := (Kp.refl (fun b => b = w.heap.size + 2) w4).setCell _ _ (fun _ => rfl)
  have hW2 : (w4.setCell ⟨w.heap.size + 1 + 1, 5, none⟩ (.slice ao5 r.refs.length cap5)).setCells (w.heap.size + 1) 0 cs5 = W9 := hW9
  have hlv := Tab.res39 Y5.out rfl cs5 h5l
  rw [hW2] at hlv
  have k4W : Kp (fun b => b = w.heap.size + 2 ∨ b = w.heap.size + 1) w4 W9 := by
    rw [← hW2]
    exact kp_setCells (fun _ => .inr rfl) _ _ (k45.mono (fun i _ e => .inl e))
  have B4 : Below w.heap.size w w4 := B3.trans (b4.mono B3.size)
  have bW : Below w.heap.size w W9 := B4.trans (k4W.below B4.size (fun i hi e => by rcases e with e | e <;> omega))
  have b4s := b4.size
  refine bodyPost_ret (v := .agg cs5.toArray) (results_cell Tryz.results56 rfl hlv) rfl ⟨cs5, rfl, ⟨_, _, fun q => q < w2.heap.size ∧ W.heap.size ≤ q, fun q => W3.heap.size ≤ q, HC5.out.symm, hh, fun q hq => by show w.heap.size ≤ q; omega, fun q hq => by show w.heap.size ≤ q; omega, fun q h1 h2 => by omega, ?_, ?_⟩, bW⟩
  · have h3 := (HK2.out.sub (S' := fun q => q < w2.heap.size ∧ W.heap.size ≤ q) (fun q hz (hq : W.heap.size ≤ q) => ⟨hz, hq⟩))
    have h4 := (h3.ag k3.size (Ag.of_kp k3 (fun q _ hq e => by omega))).below b4
    exact h4.ag k4W.size (Ag.of_kp k4W (fun q _ hq e => by rcases e with e | e <;> omega))
  · exact ((StrsW.of_own hown4).sub (S' := fun q => W3.heap.size ≤ q) (fun q _ hq => hq.1)).ag k4W.size (Ag.of_kp k4W (fun q _ (hq : W3.heap.size ≤ q) e => by rcases e with e | e <;> omega))
end Go.Proofs.YtmmmghpimdfleaaGreatDoor.Twin
