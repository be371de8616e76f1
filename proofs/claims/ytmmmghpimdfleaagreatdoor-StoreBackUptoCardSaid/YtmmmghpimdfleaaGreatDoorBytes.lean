/-
  View.Bytes: the bytes of all archives.
-/
import Derived.Test.YtmmmghpimdfleaaGreatDoorGrpR
set_option linter.unusedVariables false
set_option linter.unusedSimpArgs false
namespace Go.Proofs.YtmmmghpimdfleaaGreatDoor.St
open Go.RowKit Mem Tr Rng
open Go.Proofs.YtmmmghpimdfleaaGreatDoor.Own
attribute [local go_sem] Oper.semAt_some

def sumZ (rs : List Rec) : Int := (rs.map Rec.size).sum
theorem sumZ_snoc (rs : List Rec) (r : Rec) : sumZ (rs ++ [r]) = sumZ rs + r.size := by
  unfold sumZ; rw [List.map_append, List.sum_append]; simp
/-- sizes that no sum of them wraps -/
def Small (rs : List Rec) : Prop := ∀ r ∈ rs, 0 ≤ r.size ∧ r.size ≤ 1073741824
theorem sumZ_le {rs : List Rec} (h : Small rs) : 0 ≤ sumZ rs ∧ sumZ rs ≤ 1073741824 * (rs.length : Int) := by
  induction rs with
  | nil => exact ⟨by simp [sumZ], by simp [sumZ]⟩
  | cons r rs ih =>
    have h1 := h r (by simp)
    have h2 := ih (fun x hx => h x (by simp [hx]))
    have e : sumZ (r :: rs) = r.size + sumZ rs := by simp [sumZ]
    rw [e, List.length_cons]
    constructor
    · omega
    · push_cast; omega

def InvB (w : World) (b6 base : Nat) (pre : List (Rec × List Value)) (W : World) : Prop :=
  Boxed W b6 3 (.int .i64 (sumZ (pre.map (·.1)))) ∧ Below w.heap.size w W ∧ base ≤ W.heap.size
theorem InvB.grown {w : World} {b6 base : Nat} {pre : List (Rec × List Value)} {W W' : World} {row : Option Nat} (h : InvB w b6 base pre W) (hg : W.grownBy W' row) (hr : ∀ r, row = some r → base ≤ r ∧ ∃ o : Obj, W.heap[r]? = some o ∧ o.isCells = false) (h6 : b6 < base) (hwb : w.heap.size < base) : InvB w b6 base pre W' := by
  obtain ⟨h1, h4, h5⟩ := h
  exact ⟨h1.kept hg (fun e => by have := (hr _ e.symm).1; omega), h4.grown hg h4.size (fun k e => by have := (hr k e).1; omega), Nat.le_trans h5 hg.size⟩
theorem InvB.below {w : World} {b6 base : Nat} {pre : List (Rec × List Value)} {W W' : World} (h : InvB w b6 base pre W) (hb : Below W.heap.size W W') : InvB w b6 base pre W' := by
  obtain ⟨h1, h4, h5⟩ := h
  exact ⟨(hb.block _ h1.lt).trans h1, h4.trans (hb.mono h4.size), Nat.le_trans h5 hb.size⟩
/-- 'n += size': what the walk owes behind it. -/
theorem addedB {w : World} {b6 base : Nat} {pre : List (Rec × List Value)} {x : Rec × List Value} {W : World} (h : InvB w b6 base pre W) (h6 : b6 < base) (hw6 : w.heap.size ≤ b6) :
    KeepsOthers W (W.setCell ⟨b6, 0, none⟩ (.int .i64 (sumZ (pre.map (·.1)) + x.1.size))) ∧ All.Kq (OwnV b6) W (W.setCell ⟨b6, 0, none⟩ (.int .i64 (sumZ (pre.map (·.1)) + x.1.size))) ∧ InvB w b6 base (pre ++ [x]) (W.setCell ⟨b6, 0, none⟩ (.int .i64 (sumZ (pre.map (·.1)) + x.1.size))) := by
  obtain ⟨hv, hB, hz⟩ := h
  have l6 := hv.lt
  have far : ∀ j, j ≠ b6 → (W.setCell ⟨b6, 0, none⟩ (.int .i64 (sumZ (pre.map (·.1)) + x.1.size))).heap[j]? = W.heap[j]? := fun j hne => Below.heap_setCell _ _ _ _ hne
  refine ⟨KeepsOthers.setCell _ _ _, ⟨by simp, fun k o hk ho hn => ?_, fun k hk => ?_⟩, ?_, ?_, by simpa using hz⟩
  · rw [far k (fun e => hn (.inr (.inl e)))]
    exact hk
  · rcases hk with h1 | h1 | ⟨u, h1, h2⟩
    · simp at h1; omega
    · exact .inl (.inr (.inl h1))
    · rw [(hv.set _).cell] at h1
      obtain rfl := Option.some.inj h1
      cases h2
  · have := hv.set (.int .i64 (sumZ (pre.map (·.1)) + x.1.size))
    rw [List.map_append, List.map_cons, List.map_nil, sumZ_snoc]
    exact this
  · exact hB.trans ((Kp.refl (fun k => k = b6) W).setCell ⟨b6, 0, none⟩ _ (fun _ => rfl) |>.below hB.size (fun i hi e => by omega))

set_option maxRecDepth 20000 in
set_option maxHeartbeats 4000000 in
theorem bytesC (M F : Nat → Prop) (s : Nat) (rs : List Rec) (w : World) (h : Is M F w s rs) (hn : rs.length ≤ 1073741823) (hsm : Small rs) :
    Calls Tryz.prog 35 #[.pointer (some ⟨s, 0, none⟩)] w fun e w' => e = .returned (.int .i64 (sumZ rs)) ∧ Below w.heap.size w w' := by
  obtain ⟨⟨t, bs, ha⟩, hso⟩ := h
  have HBS := Lib.hid bs
  have HA := Lib.hid ha
  have HSM := Lib.hid hsm
  clear bs ha hsm
  refine (callsIn_wide (n := 5)).1 ?_
  refine callsIn_of_wp_marks Tryz.func35 rfl trivial ?_ rfl
  simp only [Tryz.ntmps35, List.size_toArray, List.length_cons, List.length_nil, Nat.reduceAdd, Nat.reduceSub, Array.replicate_succ, Array.replicate_zero, List.push_toArray, List.append_toArray, List.nil_append, List.cons_append]
  have c0 : ∀ o, (w.alloc o).cell? ⟨s, 0, none⟩ = some (.pointer (some ⟨t, 0, none⟩)) := fun o => Lib.cell?_alloc_some o (HBS.out.cell 0)
  gi_wp2_with fail
  obtain ⟨w3, hw3⟩ : ∃ W, w.alloc (.cells #[.int .i64 0] 3) = W := ⟨_, rfl⟩
  rw [hw3]
  obtain ⟨b3, x3⟩ := alloc_fact hw3
  clear hw3 c0
  refine ⟨trivial, (callsIn_wide.2 (All.allC t w3)).mono ?_⟩
  rintro e w4 ⟨rfl, hw4⟩
  obtain ⟨b4, x4⟩ := alloc_fact hw4.symm
  clear hw4
  have B4 := b3.trans (b4.mono b3.size)
  have x34 := x3.below b4
  obtain ⟨bx, hbx⟩ : ∃ bx, w3.heap.size = bx := ⟨_, rfl⟩
  have lt6 := x34.lt
  have ltx := x4.lt
  have l6x := x3.lt
  rw [hbx] at x4 ltx l6x ⊢
  obtain ⟨xs, exs, hxr, hgives⟩ := All.gives 4 (OwnV w.heap.size) M F t bx rs w4 (HA.out.below B4) x4 (by omega) (ownV_mq w.heap.size) (fun W hW k hk => by
    rcases hk with h1 | rfl | ⟨v, h1, h2⟩
    · have := hW.size; omega
    · have := hW.size; omega
    · rw [World.cell?_of_block (w := w4) (a := ⟨w.heap.size, 0, none⟩) (hW.block w.heap.size lt6), x34.cell] at h1
      obtain rfl : Value.int .i64 0 = v := by simpa using h1
      cases h2)
  gi_wp2_with fail
  have hone : ∀ x ∈ xs, x.2.length = 39 := fun x hx => (hxr x hx).length
  refine range_law2 (gf := 127) (lb := #[.pointer (some ⟨bx, 0, none⟩)]) rfl (enters_of Tryz.func127 (by kernel_rfl) rfl) hgives
    (fun A B hm k o hk ho hc => (Below.block hm k (Array.getElem?_eq_some_iff.1 ho).1).trans ho)
    (fun h1 h2 => All.Kq.trans h1 h2)
    (fun W l o o' hl ho hc => kq_put w.heap.size W l o o' (by omega) ho hc)
    (fun x => rfl)
    (InvB w w.heap.size w4.heap.size) (fun _ _ _ => False) ?hI (fun c s A B row h => h.elim) ?mI (fun c s A B h => h.elim)
    ⟨x34, B4, Nat.le_refl _⟩
    (fun x a W => ∃ b8 zs, Bx W b8 zs 31 ∧ W.rangeAt b8 0 x.2 ∧ a = { tmps := #[.pointer (some ⟨s, 0, none⟩), undef, .int .i64 0, .pointer (some ⟨w.heap.size, 0, none⟩), undef, .pointer (some ⟨b8, 0, none⟩), .pointer (some ⟨s, 0, none⟩), .pointer (some ⟨s, 0, none⟩), .pointer (some ⟨s, 0, none⟩), .pointer (some ⟨t, 0, none⟩), .func (.func 127) #[] #[.pointer (some ⟨bx, 0, none⟩)], .string x.1.path, .agg x.2.toArray, undef, undef, undef, undef, undef], defers := [] }) ?hA
    (fun A B h => kq_below w.heap.size A B h) ?assign ?body ?done ?stop
  case hI => exact fun pre A B row h hg hr => h.grown hg hr (by omega) (by omega)
  case mI => exact fun pre A B h hm => h.below hm
  case hA =>
    rintro x a W l' o o' hl ho hc ⟨b8, zs, hz, hrg, rfl⟩
    have hne : b8 ≠ l' := fun e => by subst e; unfold Bx at hz; rw [hz] at ho; cases ho; cases hc
    exact ⟨b8, zs, (World.putObj_heap_other (by first | exact hne | exact hne.symm)).trans hz, fun j u hj => (World.cell?_of_block (w := W) (a := ⟨b8, 0 + j, none⟩) (World.putObj_heap_other (by first | exact hne | exact hne.symm))).trans (hrg j u hj), rfl⟩
  case assign =>
    intro l x W K hx hK
    have hl := hone x hx
    have hoc := Tab.recOne (hxr x hx)
    unfold All.encs
    gi_wp2_with (refine wpListIn_store_mid (by rfl) 31 _ _ (by rfl) W.heap.size 0 x.2.toArray (by rfl) (by rfl) ?s4 ?s5 ?s6 ?_; rotate_right; refine Mem.named ?_; intro W1 hW1)
    case s4 => exact (Bx.new W Ins.zeroRec.cells 31).there _ (by rw [show x.2.toArray.size = 39 by simpa using hl]; rfl)
    case s5 => rw [List.size_toArray, hl]; kernel_rfl
    case s6 => exact all_oneCell_toArray hoc
    have hW2 : (W.alloc (.cells Ins.zeroRec.cells 31)).setCells W.heap.size 0 x.2 = W1 := hW1
    obtain ⟨zs, hz, _⟩ := bx_setCells x.2 0 _ (Bx.new W Ins.zeroRec.cells 31)
    rw [hW2] at hz
    exact hK _ _ (stash hW2) ⟨W.heap.size, zs, hz, stash_range hW2 (by rw [hl]; rfl), rfl⟩
  case body =>
    rintro l pre x W a1 hI hpre ⟨b8, zs, hz, hrg, rfl⟩
    have hpx : x ∈ xs := hpre.subset (by simp)
    obtain ⟨kv, rv, hcs, hh, hk, hrr⟩ := hxr x hpx
    have hcl := hone x hpx
    have q := recSize hcs.symm hcl hh
    have g38 : W.cell? ⟨b8, 38, none⟩ = some (.int .i64 x.1.size) := by
      have := hrg 38 _ (by rw [List.getElem?_eq_getElem (by omega), q])
      simpa using this
    have hsz : Small (pre.map (·.1)) := fun r hr => HSM.out r (by
      rw [← exs]
      obtain ⟨y, hy, rfl⟩ := List.mem_map.1 hr
      exact List.mem_map_of_mem (hpre.subset (List.mem_append_left _ hy)))
    have hx1 := HSM.out x.1 (by rw [← exs]; exact List.mem_map_of_mem hpx)
    have hbd := sumZ_le hsz
    have hln : pre.length ≤ 1073741823 := by
      have h2 := hpre.length_le
      have h3 : xs.length = rs.length := by rw [← exs, List.length_map]
      simp at h2
      omega
    rw [List.length_map] at hbd
    obtain ⟨k1, k2, k3⟩ := addedB (x := x) hI (by omega) (Nat.le_refl _)
    have K1 := Lib.hid k1
    have K2 := Lib.hid k2
    have K3 := Lib.hid k3
    have d6 : W.cell? ⟨w.heap.size, 0, none⟩ = some (.int .i64 (sumZ (pre.map (·.1)))) := hI.1.cell
    have f6 := hI.1.frozen
    obtain ⟨S, hS⟩ : ∃ S, sumZ (pre.map (·.1)) = S := ⟨_, rfl⟩
    obtain ⟨z, hz'⟩ : ∃ z, x.1.size = z := ⟨_, rfl⟩
    rw [hS] at d6 K1 K2 K3 hbd
    rw [hz'] at g38 K1 K2 K3 hx1
    have hw : IntKind.i64.wrap (S + z) = S + z := by rw [IntKind.wrap_i64]; omega
    clear k1 k2 k3 hS hz' hbd hx1 hln hsz q hcl hcs hk hrr hI hz hrg
    gi_wp2_with fail
    exact ⟨K1.out.from _, K2.out, K3.out⟩
  case done =>
    rintro D W hD hI hK
    unfold InvB at hI
    rw [exs] at hI
    obtain ⟨hv, hB', hz'⟩ := hI
    have d6 : W.cell? ⟨w.heap.size, 0, none⟩ = some (.int .i64 (sumZ rs)) := hv.cell
    gi_wp2_with fail
    refine ⟨by simp, .inl ⟨_, _, rfl, run_takeDeferred hK, ?_⟩⟩
    have b9 := hB'.trans ((Below.refl w.heap.size W).grown (grownBy_putObj' W D (.deferred none)) (by have := hB'.size; omega) (fun k e => by cases e; have := b3.size; omega))
    refine ⟨.int .i64 (sumZ rs), ?_, rfl, b9⟩
    simp [results, Tryz.f35, go_sem]
  case stop => exact fun D c pre W hD hp h => h.elim
end Go.Proofs.YtmmmghpimdfleaaGreatDoor.St
