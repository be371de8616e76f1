/-
  View.Closure: the paths that are reached from the roots, rising.
-/
import Derived.Test.YtmmmghpimdfleaaGreatDoorGrpV
import Derived.Test.YtmmmghpimdfleaaGreatDoorSort
set_option linter.unusedVariables false
set_option linter.unusedSimpArgs false
namespace Go.Proofs.YtmmmghpimdfleaaGreatDoor.St
open Go.RowKit Mem Tr
open Go.Proofs.YtmmmghpimdfleaaGreatDoor.Own
open Go.Proofs.YtmmmghpimdfleaaGreatDoor.Mp (Mp Fv Rg)

/-- What Closure gives. -/
def PostClos (w : World) (rs : List Rec) (roots : List ByteArray) (e : Ending) (w' : World) : Prop :=
  Below w.heap.size w w' ∧ ((∃ q, Rch rs roots q ∧ Sto.has rs q = false ∧ e = .returned (.tuple #[.slice none 0 0, .int .i64 3])) ∨
    ∃ v L, e = .returned (.tuple #[v, .int .i64 0]) ∧ w'.ownsRow w.heap.size 9 1 v L.length (L.map .string) ∧ Srt.Ris L ∧ (∀ p, p ∈ L ↔ Rch rs roots p) ∧ ∀ p ∈ L, ∃ r ∈ rs, r.path = p)

theorem range_nil (w : World) : (Instr.range 126 (.map none)).run Tryz.prog w = .ok (.pointer (some ⟨w.heap.size, 0, none⟩)) (w.alloc (.mapIter none 0 #[] 0)) := by
  simp [Instr.range, run_underlying Tryz.underlying126, go_sem]
theorem next_nil (w : World) (r : Nat) (ty : TypeId) (h : w.heap[r]? = some (.mapIter none 0 #[] 0)) : (Instr.next (.pointer (some ⟨r, 0, none⟩)) false ty).run Tryz.prog w = .ok (.tuple #[.bool false]) w := by
  have hg : (getObj r).run Tryz.prog w = .ok (.mapIter none 0 #[] 0) w := by simp [getObj, Sem.run, h]
  unfold Instr.next
  simp only [Sem.run_bind, hg, Result.andThen_ok, Sem.run_pure]

set_option maxHeartbeats 4000000 in
set_option maxRecDepth 20000 in
theorem closureC (M F S : Nat → Prop) (s : Nat) (rs : List Rec) (rv : Value) (roots : List ByteArray) (w : World) (h : Is M F w s rs) (hn : rs.length ≤ 1073741822) (hr : Strs S w rv roots) (hwt : roots.length + wt (fun _ => none) rs ≤ 1099511627776) (hps : ∀ p, Rch rs roots p → p.size ≤ maxLen) :
    Calls Tryz.prog 39 #[.pointer (some ⟨s, 0, none⟩), rv] w (PostClos w rs roots) := by
  have hR := reachC M F S s rs rv roots w h (by omega) hr hwt hps
  clear h
  go_enter Tryz.func39, Tryz.ntmps39
  go_wp2_with fail
  refine hR.mono ?_
  rintro e w1 ⟨b1, ⟨q, h1, h2, rfl⟩ | ⟨b, gs, rfl, hb, hmp, hnd, hrec, hrch⟩⟩
  · have HH := Lib.hid (show Rch rs roots q ∧ Sto.has rs q = false from ⟨h1, h2⟩)
    have hrg := range_nil w1
    obtain ⟨w2, hw2⟩ : ∃ W, w1.alloc (.mapIter none 0 #[] 0) = W := ⟨_, rfl⟩
    rw [hw2] at hrg
    have hb2 : w2.heap[w1.heap.size]? = some (.mapIter none 0 #[] 0) := by rw [← hw2]; simp only [World.alloc, Array.getElem?_push_size]
    have hnx := next_nil w2 w1.heap.size 0 hb2
    have b2 : Below w1.heap.size w1 w2 := by rw [← hw2]; exact (Below.refl _ w1).alloc (Nat.le_refl _) _
    clear h1 h2 hR hw2 hb2
    go_wp2_with fail
    refine wp_loop_rounds 1 ?_
    rw [rounds_succ]
    go_wp2_with fail
    refine (Tryz.slices_Sort_none none 0 w2).mono ?_
    rintro e w3 ⟨rfl, rfl⟩
    go_wp2_with fail
    go_ret2
    exact ⟨b1.trans (b2.mono b1.size), .inl ⟨q, HH.out.1, HH.out.2, rfl⟩⟩
  · have HH := Lib.hid (show (paths gs).Nodup ∧ (∀ x ∈ gs, x.1 ∈ rs ∧ RecAt F w1 x.2 x.1) ∧ ∀ p, p ∈ paths gs ↔ Rch rs roots p from ⟨hnd, hrec, hrch⟩)
    obtain ⟨w2, cnt, hrange, rg2, hg2, hs2, hcnt⟩ := hmp.range (t := 126) Tryz.underlying126
    have b2 : Below w1.heap.size w1 w2 := ⟨hg2.os, hg2.tape, hg2.output, hg2.size, fun k hk => hg2.block k hk (by simp)⟩
    have B2 := b1.trans (b2.mono b1.size)
    have HGL := Lib.hid (show gs.length ≤ 1073741822 by
      have h1 := nodup_sub (nodup_recs HH.out.1) (m := rs) (fun a ha => by obtain ⟨x, hx, rfl⟩ := List.mem_map.1 ha; exact (HH.out.2.1 x hx).1)
      rw [List.length_map] at h1
      omega)
    have RG2 := Lib.hid rg2
    have hbl : w.heap.size ≤ w1.heap.size := b1.size
    clear hnd hrec hrch hmp hR hg2 hs2 hcnt rg2
    go_wp2_with fail
    clear hrange
    go_loopg [8] cnt (fun k ov wr => ∃ (ao : Option Addr) (n c : Nat), ov = .slice ao n c ∧ Hid (∃ (out : List ByteArray) (left : ByteArray → Bool), out.length = n ∧ Rg wr b w1.heap.size gs.length (gotF gs) left k ∧ wr.ownsRow w.heap.size 9 1 (.slice ao n c) out.length (out.map .string) ∧ out.Nodup ∧ (∀ p, p ∈ out ↔ p ∈ paths gs ∧ left p = false) ∧ Below w.heap.size w wr))
    case atStart => exact ⟨none, 0, 0, rfl, Lib.hid ⟨[], _, rfl, RG2.out, World.ownsRow_nil _ _ _ _, List.nodup_nil, (fun p => by
      constructor
      · intro h; cases h
      · rintro ⟨h1, h2⟩
        have := isSome_gotF.2 h1
        rw [this] at h2; cases h2), B2⟩⟩
    case round =>
      obtain ⟨ao, n, c, rfl, HI⟩ := hrel
      obtain ⟨out, left, hol, rg, hown, hnd, hmem, hB⟩ := HI.out
      have hnl : n ≤ 1073741822 := by
        have h1 := nodup_sub hnd (m := paths gs) (fun p hp => ((hmem p).1 hp).1)
        unfold paths at h1
        rw [List.length_map] at h1
        have := HGL.out
        omega
      rcases rg.next 0 with ⟨hk0, hl0, hnx⟩ | ⟨p, v, w7, cnt', hps1, hlp, hfp, hnx, rg7, hlt, hg7, hs7, hen⟩
      · have HO := Lib.hid (show wr.ownsRow w.heap.size 9 1 (.slice ao n c) out.length (out.map .string) ∧ out.Nodup ∧ (∀ p, p ∈ out ↔ p ∈ paths gs) ∧ Below w.heap.size w wr from ⟨hown, hnd, fun p => by rw [hmem]; simp [hl0 p], hB⟩)
        clear HI hown hnd hmem hB rg hl0 hk0
        go_wp2_with fail
        refine (Srt.sortC w.heap.size (.slice ao n c) out wr HO.out.1 (by omega)).mono ?_
        rintro e w8 ⟨rfl, hown8, hg8⟩
        have HO8 := Lib.hid hown8
        have hB8 := HO.out.2.2.2.grown hg8 HO.out.2.2.2.size (fun k e => (HO.out.1.lt k e).1)
        clear hown8 hg8 hnx
        go_wp2_with fail
        go_ret2
        refine ⟨hB8, .inr ⟨_, Srt.sortB out, rfl, ?_, Srt.sortB_ris HO.out.2.1, fun p => ?_, fun p hp => ?_⟩⟩
        · rw [Srt.sortB_length]; exact HO8.out
        · rw [Srt.mem_sortB, HO.out.2.2.1]; exact HH.out.2.2 p
        · rw [Srt.mem_sortB, HO.out.2.2.1] at hp
          obtain ⟨x, hx, rfl⟩ := List.mem_map.1 hp
          exact ⟨x.1, (HH.out.2.1 x hx).1, rfl⟩
      · have hnr : (Value.slice ao n c).ownBlock ≠ some w1.heap.size := rg.notRow hown
        have hown7 := hown.kept hg7 (.inr hnr)
        have hB7 := hB.grown hg7 hB.size (fun k e => by cases e; exact hbl)
        have hpin : p ∈ paths gs := isSome_gotF.1 (by rw [hfp]; rfl)
        have hpo : p ∉ out := fun h => by have := ((hmem p).1 h).2; rw [hlp] at this; cases this
        have HNEW := Lib.hid (show Rg w7 b w1.heap.size gs.length (gotF gs) (fun x => left x && decide (x ≠ p)) cnt' ∧ (out ++ [p]).Nodup ∧ (∀ x, x ∈ out ++ [p] ↔ x ∈ paths gs ∧ (left x && decide (x ≠ p)) = false) ∧ Below w.heap.size w w7 ∧ w7.ownsRow w.heap.size 9 1 (.slice ao n c) out.length (out.map .string) from
          ⟨rg7, by rw [List.nodup_append]; exact ⟨hnd, by simp, fun a ha b hb => by simp at hb; subst hb; exact fun e => hpo (e ▸ ha)⟩, fun x => by
            rw [List.mem_append, hmem, List.mem_singleton]
            by_cases e : x = p
            · subst e; simp [hpin]
            · simp [e], hB7, hown7⟩)
        have hol' := hol
        rw [← hol'] at hown7
        obtain ⟨i0, hi, hz0, hz1, hz2⟩ := info_parts Make.infoStr
        have hsz7 := hB7.size
        clear HI hown hnd hmem hB rg rg7 hB7 hpin hpo hg7 hs7 hlp hfp hnr
        subst hol
        go_wp2_with (at_builtin; go_loud (refine wpList_append_own _ rfl _ _ 27 rfl w.heap.size 9 i0 (.string ⟨#[]⟩) 1 16 Tryz.underlying27 hi hz0 hz1 hz2 rfl (by decide) _ _ _ rfl (hown7.alloc _) ⟨w7.heap.size, 0, none⟩ 1 1 [.string p] rfl rfl (cell_one_new _ _ _) (by simp [Value.oneCell']) (by unfold maxLen; omega) (by omega) (by simp; omega) ?_; intro v' w8 hown8 hgrow hnil; obtain ⟨g', cap', rfl⟩ := ownsRow_succ hown8; have HN8 := Lib.hid hown8; have HG8 := Lib.hid hgrow; clear hown8 hgrow hnil))
        have hmr : (Value.slice ao out.length c).ownBlock ≠ some b := HNEW.out.1.mp.notRow HNEW.out.2.2.2.2
        have hrr : (Value.slice ao out.length c).ownBlock ≠ some w1.heap.size := HNEW.out.1.notRow HNEW.out.2.2.2.2
        have hgl : ∀ k, (Value.slice ao out.length c).ownBlock = some k → w.heap.size ≤ k := fun k e => (HNEW.out.2.2.2.2.lt k e).1
        have hba : Below w7.heap.size w7 (w7.alloc (.cells #[.string p] 9)) := (Below.refl _ w7).alloc (Nat.le_refl _) _
        have hRg : Rg w8 b w1.heap.size gs.length (gotF gs) (fun x => left x && decide (x ≠ p)) cnt' := Mp.Rg.kept (Rg.below HNEW.out.1 hba) HG8.out (Ne.symm hmr) (Ne.symm hrr)
        have hB8 : Below w.heap.size w w8 := (HNEW.out.2.2.2.1.trans (hba.mono HNEW.out.2.2.2.1.size)).grown HG8.out (by have := hba.size; omega) hgl
        have HF := Lib.hid (show (out ++ [p]).length = out.length + 1 ∧ Rg w8 b w1.heap.size gs.length (gotF gs) (fun x => left x && decide (x ≠ p)) cnt' ∧ w8.ownsRow w.heap.size 9 1 (.slice (some ⟨g', 0, none⟩) (out.length + 1) cap') (out ++ [p]).length ((out ++ [p]).map .string) ∧ (out ++ [p]).Nodup ∧ (∀ x, x ∈ out ++ [p] ↔ x ∈ paths gs ∧ (left x && decide (x ≠ p)) = false) ∧ Below w.heap.size w w8 from
          ⟨by simp, hRg, by simpa using HN8.out, HNEW.out.2.1, HNEW.out.2.2.1, hB8⟩)
        clear hmr hrr hgl hba hRg hB8
        go_roundg cnt'
        case measure => exact hlt
        case rel => exact ⟨_, _, _, rfl, Lib.hid ⟨out ++ [p], _, HF.out⟩⟩
end Go.Proofs.YtmmmghpimdfleaaGreatDoor.St
