/-
  slices.Delete of one element at []string and []Record, by what the rows own; table.Cut and Store.Cut.
-/
import Derived.Test.YtmmmghpimdfleaaGreatDoorGrpL
import Derived.Sort.OwnSorted
set_option linter.unusedVariables false
set_option linter.unusedSimpArgs false
namespace Go.Proofs.YtmmmghpimdfleaaGreatDoor.Own
open Go.RowKit Mem

/-- What a deletion gives. -/
def PostDel (w : World) (v : Value) (n k : Nat) (ys : List Value) (t : TypeId) (e : Ending) (w' : World) : Prop :=
  ∃ v', e = .returned v' ∧ w'.ownsRow 0 t k v' n ys ∧ Kp (fun b => v.ownBlock = some b) w w' ∧ ∀ b, v'.ownBlock = some b → v.ownBlock = some b

theorem bx_drewN {w : World} {b : Nat} {cs : Array Value} {t : TypeId} (h : Bx w b cs t) (q : Nat) : Bx (w.drewN q) b cs t := h.dn (Dn.drewN w q)
theorem post_del {w w' : World} {g c : Nat} {cur : Array Value} {xs Z : List Value} {n i k : Nat} {t : TypeId} (hb : Bx w g cur t) (hi : i < n) (hl : xs.length = n * k) (hZ : Z.length = k) (hs : cur.size = c * k) (hn : n ≤ c) (hm : c ≤ maxLen) (hx : ∀ j, j < n * k → cur[j]? = xs[j]?)
    (hw : ∃ q, w' = ((w.drewN q).setCells g (i * k) (xs.drop ((i + 1) * k))).setCells g ((n - 1) * k) Z) :
    PostDel w (.slice (some ⟨g, 0, none⟩) n c) (n - 1) k (xs.take (i * k) ++ xs.drop ((i + 1) * k)) t (.returned (.slice (some ⟨g, 0, none⟩) (n - 1) c)) w' := by
  obtain ⟨q, rfl⟩ := hw
  have hb0 := bx_drewN hb q
  obtain ⟨c1, b1, s1⟩ := bx_setCells (xs.drop ((i + 1) * k)) (i * k) _ hb0
  obtain ⟨c2, b2, s2⟩ := bx_setCells Z ((n - 1) * k) _ b1
  have e1 : (i + 1) * k = i * k + k := Nat.succ_mul _ _
  have e2 : n * k = (n - 1) * k + k := by rw [← Nat.succ_mul]; congr 1; omega
  have h1 : i * k ≤ (n - 1) * k := Nat.mul_le_mul_right _ (by omega)
  have h2 : n * k ≤ c * k := Nat.mul_le_mul_right _ hn
  have hdl : (xs.drop ((i + 1) * k)).length = (n - 1) * k - i * k := by rw [List.length_drop, hl, e1, e2]; omega
  refine ⟨_, rfl, own_of_cells b2 (Nat.zero_le _) (by rw [s2, s1, hs]) (by omega) hm ?_ (fun j hj => ?_), ?_, fun b h => h⟩
  · rw [List.length_append, List.length_take, hdl]; omega
  · rw [World.cell?_setCells_out _ _ _ _ _ (fun _ _ => .inl (by show j < (n - 1) * k; exact hj))]
    have htl : (xs.take (i * k)).length = i * k := by rw [List.length_take]; omega
    by_cases hji : j < i * k
    · rw [World.cell?_setCells_out _ _ _ _ _ (fun _ _ => .inl (by show j < i * k; exact hji)), hb0.cell, hx j (by omega), List.getElem?_append_left (by omega), List.getElem?_take, if_pos hji]
    · rw [List.getElem?_append_right (by omega), htl]
      obtain ⟨d, rfl⟩ : ∃ d, j = i * k + d := ⟨j - i * k, by omega⟩
      rw [show i * k + d - i * k = d by omega]
      have hd : d < (xs.drop ((i + 1) * k)).length := by omega
      have hr := World.rangeAt_setCells_same (w.drewN q) g (i * k) (xs.drop ((i + 1) * k)) (fun j hj => ⟨bx_isSome hb0 (by omega), hb0.frozen _⟩) d _ (List.getElem?_eq_getElem hd)
      rw [hr, List.getElem?_eq_getElem hd]
  · have hM : g < w.heap.size → (fun b => (Value.slice (some ⟨g, 0, none⟩) n c).ownBlock = some b) g := fun _ => rfl
    exact kp_setCells hM _ _ (kp_setCells hM _ _ (Kp.of_dn (Dn.drewN w q)))

theorem run_clear1 (w : World) (t e ty : TypeId) (z : Value) (ht : Tryz.prog.underlying t = some (.slice e)) (hv : ∀ w, (zeroValue e).run Tryz.prog w = .ok z w) (b o c : Nat) (Z : List Value) (hz : (Builtin.zeroCells z.cells 1).toList = Z) (h1 : ∀ v ∈ Z, v.oneCell' = true)
    (hc : ∀ j, j < Z.length → (w.cell? ⟨b, o + j, none⟩).isSome = true) (hf : ∀ j, j < Z.length → w.frozen? ⟨b, o + j, none⟩ = false) :
    (Builtin.clear_ #[t] ty #[.slice (some ⟨b, o, none⟩) 1 c]).run Tryz.prog w = .ok (.tuple #[]) (w.setCells b o Z) := by
  have hst := run_storeCells_cells (P := Tryz.prog) b o Z 0 w (by simpa using hc) (by simpa using hf) h1
  simp only [Nat.add_zero] at hst
  simp [Builtin.clear_, run_underlying ht, hv, hz, hst]
theorem zeroCells1 : (Builtin.zeroCells Ins.zeroRec.cells 1).toList = Ins.zeroRec.cells.toList := by kernel_rfl
theorem zeroRecV : ∀ w, (zeroValue 31).run Tryz.prog w = .ok Ins.zeroRec w := fun _ => by kernel_rfl
theorem zeroRec_one : ∀ v ∈ Ins.zeroRec.cells.toList, v.oneCell' = true := by
  intro v hv; simp only [Ins.zeroRec, Value.cells, List.mem_append, List.mem_cons, List.not_mem_nil, or_false, List.mem_replicate] at hv; rcases hv with (rfl | rfl | rfl | rfl | rfl | rfl) | (⟨_, rfl⟩ | rfl) <;> rfl

set_option maxHeartbeats 4000000 in
set_option maxRecDepth 100000 in
theorem delRecB (g n c i : Nat) (cur : Array Value) (xs : List Value) (w : World) (hb : Bx w g cur 31) (hi : i < n) (hl : xs.length = n * 39) (hs : cur.size = c * 39) (hn : n ≤ c) (hm : c ≤ 9223372036854775807) (hx : ∀ j, j < n * 39 → cur[j]? = xs[j]?) (h1 : ∀ v ∈ xs, v.oneCell' = true) :
    Calls Tryz.prog 124 #[.slice (some ⟨g, 0, none⟩) n c, .int .i64 i, .int .i64 ((i : Int) + 1)] w fun e w' => e = .returned (.slice (some ⟨g, 0, none⟩) (n - 1) c) ∧ ∃ q, w' = ((w.drewN q).setCells g (i * 39) (xs.drop ((i + 1) * 39))).setCells g ((n - 1) * 39) Ins.zeroRec.cells.toList := by
  have mxd_ : Tryz.prog.follows .mixedOrders = true := by kernel_rfl
  have t_24 := Tryz.underlying22
  obtain ⟨i0, hi0, hz0, hz1, hz2⟩ := info_parts Ins.infoRec
  obtain ⟨news, hnews⟩ : ∃ news, news = xs.drop ((i + 1) * 39) := ⟨_, rfl⟩
  have hlen : news.length = (n - (i + 1)) * 39 := by rw [hnews, List.length_drop, hl]; omega
  have hcell : ∀ j, j < n * 39 → w.cell? ⟨g, j, none⟩ = xs[j]? := fun j hj => by rw [hb.cell, hx j hj]
  obtain ⟨A, hA, hsrc⟩ : ∃ A : Addr, (if c = i + 1 then some (⟨g, 0, none⟩ : Addr) else some ⟨g, (i + 1) * 39, none⟩) = some A ∧ Hid (∀ t u, news[t]? = some u → w.drew.cell? (A.add t) = some u) := by
    by_cases h : c = i + 1
    · refine ⟨⟨g, 0, none⟩, by simp [h], Lib.hid fun t u hu => ?_⟩
      have h0 : news.length = 0 := by rw [hlen]; omega
      rw [List.length_eq_zero_iff.1 h0] at hu
      simp at hu
    · refine ⟨⟨g, (i + 1) * 39, none⟩, by simp [h], Lib.hid fun t u hu => ?_⟩
      have ht : t < (n - (i + 1)) * 39 := by
        have := (List.getElem?_eq_some_iff.1 hu).1
        rwa [hlen] at this
      rw [Addr.add_lit]
      show w.cell? ⟨g, (i + 1) * 39 + t, none⟩ = some u
      rw [hcell _ (by omega), ← List.getElem?_drop, ← hnews]
      exact hu
  have s2 : Hid (∀ u ∈ news, u.oneCell' = true) := Lib.hid fun u hu => h1 u (by rw [hnews] at hu; exact List.mem_of_mem_drop hu)
  have s3 : Hid (∀ t, t < news.length → (w.drew.cell? ⟨g, 0 + i * 39 + t, none⟩).isSome = true ∧ w.drew.frozen? ⟨g, 0 + i * 39 + t, none⟩ = false) := Lib.hid fun t ht => by
    rw [hlen] at ht
    exact ⟨bx_isSome (w := w) hb (by omega), hb.frozen _⟩
  obtain ⟨W1, hW1⟩ : ∃ W1, W1 = w.drew.setCells g (0 + i * 39) news := ⟨_, rfl⟩
  have hb1 : ∃ c1, Bx W1 g c1 31 ∧ c1.size = cur.size := by
    rw [hW1]; exact bx_setCells news (0 + i * 39) w.drew hb
  obtain ⟨c1, hb1, hsz1⟩ := hb1
  have hcl : ∀ ty cc, (Builtin.clear_ #[22] ty #[.slice (some ⟨g, (i + (n - (i + 1))) * 39, none⟩) 1 cc]).run Tryz.prog W1 = .ok (.tuple #[]) (W1.setCells g ((i + (n - (i + 1))) * 39) Ins.zeroRec.cells.toList) :=
    fun ty cc => run_clear1 W1 _ _ ty _ t_24 zeroRecV g _ cc _ zeroCells1 zeroRec_one (fun j hj => bx_isSome hb1 (by have : Ins.zeroRec.cells.toList.length = 39 := rfl; omega)) (fun j hj => hb1.frozen _)
  have hW : Hid (W1 = w.drew.setCells g (0 + i * 39) news) := Lib.hid hW1
  have HL := Lib.hid hlen
  have HNW := Lib.hid hnews
  have hic : i ≤ c := by omega
  have hjc : i + 1 ≤ c := by omega
  have hN : n - (i + (n - (i + 1))) = 1 := by omega
  have j0 : (0 : Int) ≤ (i : Int) + 1 := by omega
  have j1 : (i : Int) + 1 ≤ (n : Int) := by omega
  clear hW1 hb1 hb hx hcell hnews hlen
  go_enter Tryz.func124, Tryz.ntmps124
  go_wp2_with fail
  go_region_law_o (refine step_append_room rfl (.tmp 22) (.tmp 25) 22 rfl 31 i0 39 t_24 hi0 hz1 g 0 i c (by simp [Act.eval, Act.put]) A (n - (i + 1)) (c - (i + 1)) news (by simp [Act.eval, Act.put]) HL.out hsrc.out s2.out (by omega) s3.out ?_; rw [← hW.out])
  go_wp2
  go_ret
  rename_i x9 cs9 heq9
  have e9 : cs9 = Ins.zeroRec.cells := by have := heq9; unfold Ins.zeroRec at this ⊢; injection this with h; rw [← h]; rfl
  refine ⟨by rw [show i + (n - (i + 1)) = n - 1 by omega]; rfl, 1, ?_⟩
  rw [e9, hW.out, HNW.out, Nat.zero_add, show i + (n - (i + 1)) = n - 1 by omega]
  rfl

theorem delRec (v : Value) (n i : Nat) (xs : List Value) (w : World) (hown : w.ownsRow 0 31 39 v n xs) (hi : i < n) (h1 : ∀ v ∈ xs, v.oneCell' = true) :
    Calls Tryz.prog 124 #[v, .int .i64 i, .int .i64 ((i : Int) + 1)] w (PostDel w v (n - 1) 39 (xs.take (i * 39) ++ xs.drop ((i + 1) * 39)) 31) := by
  rcases own_parts hown with ⟨_, h0, _⟩ | ⟨g, cap, cur, rfl, _, hb, hn, hm, hs, hcur⟩
  · omega
  refine (delRecB g n cap i cur xs w hb hi hown.1 hs hn (by unfold maxLen at hm; omega) hcur h1).mono ?_
  rintro e w' ⟨rfl, hw⟩
  exact post_del hb hi hown.1 (by rfl) hs hn hm hcur hw

theorem delStr (v : Value) (n i : Nat) (l : List ByteArray) (w : World) (hl : l.length = n) (hown : w.ownsRow 0 9 1 v n (l.map .string)) (hi : i < n) :
    Calls Tryz.prog 123 #[v, .int .i64 i, .int .i64 ((i : Int) + 1)] w (PostDel w v (n - 1) 1 ((l.take i ++ l.drop (i + 1)).map .string) 9) := by
  rcases own_parts hown with ⟨_, h0, _⟩ | ⟨g, cap, cur, rfl, _, hb, hn, hm, hs, hcur⟩
  · omega
  have enc : ∀ m : List ByteArray, m.map Value.string = (m.map fun s => s.data.toList).map Go.Proofs.encStr := fun m => by
    rw [List.map_map]
    exact List.map_congr_left fun s _ => rfl
  have hbk : w.heap[g]? = some (.cells cur 9 (0, 0)) := hb
  have hH : Go.Sort.Holds Go.Proofs.encStr w g 0 (l.map fun s => s.data.toList).toArray := by
    intro j hj
    have hjl : j < l.length := by simpa using hj
    refine ⟨?_, hb.frozen _⟩
    rw [Nat.zero_add, hb.cell, hcur j (by omega)]
    simp [hjl, Go.Proofs.encStr]
  have hc2 := Ins.slices_Delete_string g 0 cap i (i + 1) (l.map fun s => s.data.toList) w hH (by rw [List.length_map]; omega) (by unfold maxLen at hm; omega) (by omega) (by rw [List.length_map]; omega)
  rw [List.length_map, hl, show i + 1 - i = 1 by omega, Int.natCast_add] at hc2
  refine hc2.mono ?_
  rintro e w' ⟨rfl, q, rfl⟩
  obtain ⟨L, hL⟩ : ∃ L, (l.map fun s => s.data.toList) = L := ⟨_, rfl⟩
  have hLl : L.length = n := by rw [← hL, List.length_map, hl]
  rw [hL]
  obtain ⟨ts, hts⟩ : ∃ ts, L.take i ++ L.drop (i + 1) ++ List.replicate 1 [] = ts := ⟨_, rfl⟩
  have htl : ts.length = n := by rw [← hts]; simp; omega
  rw [hts]
  have hx : Bx (Go.Sort.putRow Go.Proofs.encStr (Go.Sort.ahead w q) g 0 ts.toArray) g (Go.Sort.putCells Go.Proofs.encStr 0 ts.toArray cur) 9 := by
    have := Go.heap_sorted (n := q) (os := #[]) ts.toArray hbk
    unfold Bx
    simpa using this
  have hk : Kp (fun b => g = b) w (Go.Sort.putRow Go.Proofs.encStr (Go.Sort.ahead w q) g 0 ts.toArray) := by
    have := Kp.of_grown (M := fun b => g = b) (Go.grownBy_sorted (w := w) (g := g) (n := q) (os := #[]) ts.toArray) (fun r e _ => Option.some.inj e)
    simpa using this
  have htk := Go.take_putCells cur ts (by omega)
  refine ⟨_, rfl, own_of_cells hx (Nat.zero_le _) (by simp [Go.Sort.putCells, hs]) (by omega) hm ?_ (fun j hj => ?_), hk.mono (fun b _ e => by show some g = some b; rw [e]), fun b h => h⟩
  · simp; omega
  · have hj1 : j < n - 1 := by omega
    have h2 : ((Go.Sort.putCells Go.Proofs.encStr 0 ts.toArray cur).toList.take ts.length)[j]? = (ts.map Go.Proofs.encStr)[j]? := by rw [htk]
    rw [List.getElem?_take, if_pos (by omega), Array.getElem?_toList] at h2
    rw [hx.cell, h2, enc, List.getElem?_map, List.getElem?_map, ← hts, List.getElem?_append_left (by simp; omega), List.map_append, List.map_take, List.map_drop, hL]
end Go.Proofs.YtmmmghpimdfleaaGreatDoor.Own
