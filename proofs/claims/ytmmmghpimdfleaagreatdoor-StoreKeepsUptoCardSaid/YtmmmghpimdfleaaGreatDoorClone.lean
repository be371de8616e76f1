/-
  depotref06.Clone: the same tree in new memory, apart.
-/
import Derived.Test.YtmmmghpimdfleaaGreatDoorCopyW
set_option linter.unusedVariables false
set_option linter.unusedSimpArgs false
namespace Go.Proofs.YtmmmghpimdfleaaGreatDoor.Clone
open Go.RowKit Mem Tr
open Go.Proofs.YtmmmghpimdfleaaGreatDoor.Copy (zeroEnt infoEnt below_undrew own_below ent_one)

set_option maxHeartbeats 4000000 in
set_option maxRecDepth 20000 in
theorem cloneN : ∀ (N : Nat) (k : Int) (ex : Bool) (t : ByteArray) (ks : Tr.Kids) (kv : Value) (S : Nat → Prop) (w : World), ks.bulk < N → ks.bulk ≤ 4194304 → KidsAt S w kv ks →
    Calls Tryz.prog 100 #[.agg #[.int .i64 k, .bool ex, .string t, kv]] w (CopyW.PostC w k ex t ks) := by
  intro N
  induction N with
  | zero => intro k ex t ks kv S w h; omega
  | succ N ih =>
    intro k ex t ks kv S w hN hB hk
    obtain ⟨i0, hi, hz0, hz1, hz2⟩ := info_parts infoEnt
    obtain ⟨ao, cap, rfl, hcl, hcm, hel⟩ := hk
    have hlen := ks.len_le
    obtain ⟨n, hn⟩ : ∃ n, ks.len = n := ⟨_, rfl⟩
    rw [hn] at hcl hlen ⊢
    have Hn := Lib.hid hn
    have Hel := Lib.hid hel
    have HN := Lib.hid hN
    have HB := Lib.hid hB
    have NB := Lib.hid (show n ≤ 600000 by omega)
    clear hn hel hcl hcm hlen hN hB
    go_enter Tryz.func100, Tryz.ntmps100
    go_wp2_with fail
    obtain ⟨w1, hw1⟩ : ∃ W, ((w.alloc (.cells #[.int .i64 k, .bool ex, .string t, .slice ao n cap] 26)).alloc (.cells #[.int .i64 0, .bool false, .string ⟨#[]⟩, .slice none 0 0] 26)).alloc (.cells #[.int .i64 k, .bool ex, .string t, .slice none 0 0] 26) = W := ⟨_, rfl⟩
    rw [hw1]
    have x1 : Bx w1 w.heap.size #[.int .i64 k, .bool ex, .string t, .slice ao n cap] 26 := by rw [← hw1]; exact ((Bx.new w _ _).alloc _).alloc _
    have y1 : Bx w1 (w.heap.size + 1) #[.int .i64 0, .bool false, .string ⟨#[]⟩, .slice none 0 0] 26 := by
      have := Bx.new (w.alloc (.cells #[.int .i64 k, .bool ex, .string t, .slice ao n cap] 26)) #[.int .i64 0, .bool false, .string ⟨#[]⟩, .slice none 0 0] 26
      rw [World.size_alloc] at this
      rw [← hw1]; exact this.alloc _
    have z1 : Bx w1 (w.heap.size + 2) #[.int .i64 k, .bool ex, .string t, .slice none 0 0] 26 := by
      have := Bx.new ((w.alloc (.cells #[.int .i64 k, .bool ex, .string t, .slice ao n cap] 26)).alloc (.cells #[.int .i64 0, .bool false, .string ⟨#[]⟩, .slice none 0 0] 26)) #[.int .i64 k, .bool ex, .string t, .slice none 0 0] 26
      rw [World.size_alloc, World.size_alloc] at this
      rw [← hw1]; exact this
    have B1 : Below w.heap.size w w1 := by rw [← hw1]; exact (((Below.refl _ w).alloc (Nat.le_refl _) _).alloc (by simp) _).alloc (by simp; omega) _
    have s1 : w.heap.size + 3 ≤ w1.heap.size := z1.lt
    have X1 := Lib.hid x1
    have Y1 := Lib.hid y1
    have Z1 := Lib.hid z1
    have S1 := Lib.hid s1
    clear hw1 x1 y1 z1 s1
    go_loopw [4, 5] (fun i _ wr => ∃ j : Nat, j ≤ n ∧ i = .int .i64 j ∧ Below w.heap.size w wr ∧ Hid (Bx wr w.heap.size #[.int .i64 k, .bool ex, .string t, .slice ao n cap] 26) ∧ Hid (Bx wr (w.heap.size + 1) #[.int .i64 0, .bool false, .string ⟨#[]⟩, .slice none 0 0] 26) ∧ Hid (∃ v xs, Bx wr (w.heap.size + 2) #[.int .i64 k, .bool ex, .string t, v] 26 ∧ wr.ownsRow (w.heap.size + 3) 116 5 v j xs ∧ SepRow wr (ks.take j) (fun b => w.heap.size + 3 ≤ b ∧ b < wr.heap.size ∧ v.ownBlock ≠ some b) xs)) (fun i _ _ => n - (intOf i).toNat)
    case atStart => exact ⟨0, Nat.zero_le _, rfl, B1, X1, Y1, Lib.hid ⟨_, [], Z1.out, World.ownsRow_nil _ _ _ _, by rw [Tr.Kids.take_zero]; rfl⟩⟩
    case round =>
      obtain ⟨j, hj, rfl, br, xr, yr, hrow⟩ := hrel
      obtain ⟨v, xs, zr0, hown0, hrow0⟩ := hrow.out
      have ZR := Lib.hid zr0
      have HOWN := Lib.hid hown0
      have HROW := Lib.hid hrow0
      clear hrow zr0 hown0 hrow0
      have a3 : wr.cell? ⟨w.heap.size, 3, none⟩ = some (.slice ao n cap) := xr.out.cell 3
      have e0 : (0 : Int) ≤ (j : Int) := Int.natCast_nonneg _
      by_cases hlt : j < n
      · rcases Hel.out with h0 | ⟨sb, off, rfl, hel⟩
        · rw [h0] at Hn
          have := Hn.out
          simp [Tr.Kids.len] at this
          omega
        have helr := hel.below br
        obtain ⟨nm, kd, exx, tx, sub, r, ao2, cap2, hd0, hd1, hSb, g0, g1, g2, g3, g4, hsub, hbk⟩ := helr.at' (j := j) (by rw [Hn.out]; exact hlt)
        have e1 : (j : Int) < (n : Int) := by omega
        have HD := Lib.hid (ks.take_succ j hd0)
        have hsb : sub.bulk < N ∧ sub.bulk ≤ 4194304 := by have := HN.out; have := HB.out; omega
        have HS := Lib.hid hsub
        have G0 := Lib.hid g0
        have hsb0 : sb < w.heap.size := by
          obtain ⟨_, _, _, _, _, _, _, _, _, _, _, q0, _⟩ := hel.at' (j := j) (by rw [Hn.out]; exact hlt)
          exact World.block_lt_of_cell? w _ q0
        clear hd0 hd1 hel helr hbk hsub
        go_wp2_with fail
        refine (ih kd exx tx sub (.slice ao2 sub.len cap2) S wr hsb.1 hsb.2 HS.out).mono ?_
        rintro e9 w3 ⟨kv', rfl, hk3, b3⟩
        have HK3 := Lib.hid hk3
        obtain ⟨a5, c5, rfl, _, _, _⟩ := hk3
        clear a3 g0 g1 g2 g3 g4
        go_wp2_with fail
        obtain ⟨w4, hw4⟩ : ∃ W, w3.alloc (.cells #[.int .i64 kd, .bool exx, .string tx, .slice a5 sub.len c5] 26) = W := ⟨_, rfl⟩
        rw [hw4]
        obtain ⟨bb4, x4⟩ := alloc_fact hw4
        clear hw4
        have B34 : Below wr.heap.size wr w4 := b3.trans (bb4.mono b3.size)
        have X4 := Lib.hid x4
        have XR4 := Lib.hid (xr.out.below B34)
        have YR4 := Lib.hid (yr.out.below B34)
        have ZR4 := Lib.hid (ZR.out.below B34)
        have OWN4 := Lib.hid (own_below HOWN.out B34)
        have ROW4 := Lib.hid (HROW.out.below B34)
        have HK4 := Lib.hid (HK3.out.below bb4)
        have hone : ∀ u ∈ [Value.string nm, .int .i64 kd, .bool exx, .string tx, .slice a5 sub.len c5], u.oneCell' = true := ent_one HK4.out.kids
        have SZ := Lib.hid (show w.heap.size + 3 ≤ wr.heap.size ∧ wr.heap.size ≤ w3.heap.size ∧ w3.heap.size < w4.heap.size from ⟨ZR.out.lt, b3.size, x4.lt⟩)
        have gn : w4.cell? ⟨sb, off + j * 5, none⟩ = some (.string nm) := by rw [B34.cell (p := ⟨sb, off + j * 5, none⟩) (World.block_lt_of_cell? wr _ G0.out)]; exact G0.out
        have hS4 : ∀ w', Below w4.heap.size w4 w' → w'.cell? ⟨w.heap.size, 3, none⟩ = some (.slice (some ⟨sb, off, none⟩) n cap) ∧ w'.cell? ⟨sb, off + j * 5, none⟩ = some (.string nm) ∧ w'.cell? ⟨w3.heap.size, 0, none⟩ = some (.int .i64 kd) ∧ w'.cell? ⟨w3.heap.size, 1, none⟩ = some (.bool exx) ∧ w'.cell? ⟨w3.heap.size, 2, none⟩ = some (.string tx) ∧ w'.cell? ⟨w3.heap.size, 3, none⟩ = some (.slice a5 sub.len c5) := fun w' hb => by
          have h1 := XR4.out.below hb
          have h2 := X4.out.below hb
          exact ⟨h1.cell 3, by rw [hb.cell (p := ⟨sb, off + j * 5, none⟩) (World.block_lt_of_cell? w4 _ gn)]; exact gn, h2.cell 0, h2.cell 1, h2.cell 2, h2.cell 3⟩
        have hS0 := hS4 w4.drew (Below.refl _ w4).drew
        have hS4' : ∀ w' : World, w'.heap[w.heap.size]? = w4.heap[w.heap.size]? → w'.heap[sb]? = w4.heap[sb]? → w'.heap[w3.heap.size]? = w4.heap[w3.heap.size]? → w'.cell? ⟨w.heap.size, 3, none⟩ = some (.slice (some ⟨sb, off, none⟩) n cap) ∧ w'.cell? ⟨sb, off + j * 5, none⟩ = some (.string nm) ∧ w'.cell? ⟨w3.heap.size, 0, none⟩ = some (.int .i64 kd) ∧ w'.cell? ⟨w3.heap.size, 1, none⟩ = some (.bool exx) ∧ w'.cell? ⟨w3.heap.size, 2, none⟩ = some (.string tx) ∧ w'.cell? ⟨w3.heap.size, 3, none⟩ = some (.slice a5 sub.len c5) := fun w' q1 q2 q3 => by
          have h1 := XR4.out.kept q1
          have h2 := X4.out.kept q3
          exact ⟨h1.cell 3, by rw [World.cell?_of_block (w := w4) (a := ⟨sb, off + j * 5, none⟩) q2]; exact gn, h2.cell 0, h2.cell 1, h2.cell 2, h2.cell 3⟩
        have hv0 : w4.drew.cell? ⟨w.heap.size + 1 + 1, 3, none⟩ = some v := ZR4.out.cell 3
        have hv1 : ∀ o, (w4.drew.alloc o).cell? ⟨w.heap.size + 1 + 1, 3, none⟩ = some v := fun o => Lib.cell?_alloc_some o hv0
        have hS1 : ∀ o, (fun w' => w'.cell? ⟨w.heap.size, 3, none⟩ = some (.slice (some ⟨sb, off, none⟩) n cap) ∧ w'.cell? ⟨sb, off + j * 5, none⟩ = some (.string nm) ∧ w'.cell? ⟨w3.heap.size, 0, none⟩ = some (.int .i64 kd) ∧ w'.cell? ⟨w3.heap.size, 1, none⟩ = some (.bool exx) ∧ w'.cell? ⟨w3.heap.size, 2, none⟩ = some (.string tx) ∧ w'.cell? ⟨w3.heap.size, 3, none⟩ = some (.slice a5 sub.len c5)) (w4.drew.alloc o) := fun o => hS4 _ ((Below.refl _ w4).drew.alloc (Nat.le_refl _) o)
        have HFIN := Lib.hid (show ∀ (w5 : World) (gg cap3 : Nat), w5.ownsRow (w.heap.size + 3) 116 5 (.slice (some ⟨gg, 0, none⟩) (j + 1) cap3) (j + 1) (xs ++ [.string nm, .int .i64 kd, .bool exx, .string tx, .slice a5 sub.len c5]) → (w4.drew.alloc (.cells #[.string nm, .int .i64 kd, .bool exx, .string tx, .slice a5 sub.len c5] 116)).grownBy w5 v.ownBlock → (v.ownBlock = some gg ∨ gg = (w4.drew.alloc (.cells #[.string nm, .int .i64 kd, .bool exx, .string tx, .slice a5 sub.len c5] 116)).heap.size) → Hid (w4 = w4) →
            Hid ((w5.cell? ⟨w.heap.size + 1 + 1, 3, none⟩ = some v ∧ w5.frozen? ⟨w.heap.size + 1 + 1, 3, none⟩ = false) ∧ (fun w' => w'.cell? ⟨w.heap.size, 3, none⟩ = some (.slice (some ⟨sb, off, none⟩) n cap) ∧ w'.cell? ⟨sb, off + j * 5, none⟩ = some (.string nm) ∧ w'.cell? ⟨w3.heap.size, 0, none⟩ = some (.int .i64 kd) ∧ w'.cell? ⟨w3.heap.size, 1, none⟩ = some (.bool exx) ∧ w'.cell? ⟨w3.heap.size, 2, none⟩ = some (.string tx) ∧ w'.cell? ⟨w3.heap.size, 3, none⟩ = some (.slice a5 sub.len c5)) w5 ∧ (∀ u, (fun w' => w'.cell? ⟨w.heap.size, 3, none⟩ = some (.slice (some ⟨sb, off, none⟩) n cap) ∧ w'.cell? ⟨sb, off + j * 5, none⟩ = some (.string nm) ∧ w'.cell? ⟨w3.heap.size, 0, none⟩ = some (.int .i64 kd) ∧ w'.cell? ⟨w3.heap.size, 1, none⟩ = some (.bool exx) ∧ w'.cell? ⟨w3.heap.size, 2, none⟩ = some (.string tx) ∧ w'.cell? ⟨w3.heap.size, 3, none⟩ = some (.slice a5 sub.len c5)) (w5.setCell ⟨w.heap.size + 1 + 1, 3, none⟩ u)) ∧ (fun W => Below w.heap.size w W ∧ Bx W w.heap.size #[.int .i64 k, .bool ex, .string t, .slice (some ⟨sb, off, none⟩) n cap] 26 ∧ Bx W (w.heap.size + 1) #[.int .i64 0, .bool false, .string ⟨#[]⟩, .slice none 0 0] 26 ∧ Bx W (w.heap.size + 2) #[.int .i64 k, .bool ex, .string t, .slice (some ⟨gg, 0, none⟩) (j + 1) cap3] 26 ∧ W.ownsRow (w.heap.size + 3) 116 5 (.slice (some ⟨gg, 0, none⟩) (j + 1) cap3) (j + 1) (xs ++ [.string nm, .int .i64 kd, .bool exx, .string tx, .slice a5 sub.len c5]) ∧ SepRow W ((ks.take j).append (.cons nm kd exx tx sub .nil)) (fun b => w.heap.size + 3 ≤ b ∧ b < W.heap.size ∧ (Value.slice (some ⟨gg, 0, none⟩) (j + 1) cap3).ownBlock ≠ some b) (xs ++ [.string nm, .int .i64 kd, .bool exx, .string tx, .slice a5 sub.len c5])) (w5.setCell ⟨w.heap.size + 1 + 1, 3, none⟩ (.slice (some ⟨gg, 0, none⟩) (j + 1) cap3))) from by
          intro w5 gg cap3 hown5 hgrow5 hat5 _
          have zz := SZ.out
          have hlt3 : ∀ b, v.ownBlock = some b → w.heap.size + 3 ≤ b ∧ b < wr.heap.size := fun b hb => HOWN.out.lt b hb
          have hkeep : ∀ q, q < w4.heap.size → v.ownBlock ≠ some q → w5.heap[q]? = w4.heap[q]? := fun q hq hn => (hgrow5.block q (by simp; omega) (fun e => hn e.symm)).trans (Below.heap_alloc w4.drew _ q hq)
          have hbig : ∀ b, v.ownBlock = some b → w.heap.size + 3 ≤ b ∧ b < w3.heap.size := fun b hb => ⟨(hlt3 b hb).1, by have := (hlt3 b hb).2; omega⟩
          have n0 : v.ownBlock ≠ some w.heap.size := fun e => by have := (hbig _ e).1; omega
          have n1 : v.ownBlock ≠ some (w.heap.size + 1) := fun e => by have := (hbig _ e).1; omega
          have n2 : v.ownBlock ≠ some (w.heap.size + 2) := fun e => by have := (hbig _ e).1; omega
          have n3 : v.ownBlock ≠ some sb := fun e => by have := (hbig _ e).1; omega
          have n4 : v.ownBlock ≠ some w3.heap.size := fun e => by have := (hbig _ e).2; omega
          have x5 := ZR4.out.kept (hkeep _ (by omega) n2)
          have hset : ∀ u q, q ≠ w.heap.size + 2 → (w5.setCell ⟨w.heap.size + 1 + 1, 3, none⟩ u).heap[q]? = w5.heap[q]? := fun u q hq => Below.heap_setCell w5 _ u q (fun e => hq (by rw [e]))
          have s5 := hgrow5.size
          have s5' : w4.heap.size + 1 ≤ w5.heap.size := by simpa using s5
          refine Lib.hid ⟨⟨x5.cell 3, x5.frozen 3⟩, hS4' w5 (hkeep _ (by omega) n0) (hkeep _ (by omega) n3) (hkeep _ (by omega) n4), fun u => hS4' _ ((hset u _ (by omega)).trans (hkeep _ (by omega) n0)) ((hset u _ (by omega)).trans (hkeep _ (by omega) n3)) ((hset u _ (by omega)).trans (hkeep _ (by omega) n4)), ?_⟩
          have agr : Ag (fun b => v.ownBlock ≠ some b) w4 w5 := fun q hs hq => hkeep q hq hs
          have hne3 : ∀ b, b < w4.heap.size → v.ownBlock ≠ some b → b ≠ gg := fun b hb hu e => by
            subst e
            rcases hat5 with h | h
            · exact hu h
            · simp at h; omega
          have hgg : w.heap.size + 3 ≤ gg := by
            rcases hat5 with h | h
            · exact (hlt3 gg h).1
            · simp at h; omega
          have kset : Kp (fun b => b = w.heap.size + 2) w5 (w5.setCell ⟨w.heap.size + 1 + 1, 3, none⟩ (.slice (some ⟨gg, 0, none⟩) (j + 1) cap3)) := (Kp.refl (fun b => b = w.heap.size + 2) w5).setCell _ _ (fun _ => rfl)
          have B4 : Below w.heap.size w w4 := br.trans (B34.mono br.size)
          have b45 : Below w.heap.size w4 w5 := (((Below.refl _ w4).drew).alloc (show w.heap.size ≤ w4.heap.size by omega) _).grown hgrow5 (by simp; omega) (fun q hq => by have := (hlt3 q hq).1; omega)
          have B5 : Below w.heap.size w w5 := B4.trans b45
          have r3 := (ROW4.out.sub (S' := fun b => (w.heap.size + 3 ≤ b ∧ b < wr.heap.size ∧ b ≠ gg) ∧ v.ownBlock ≠ some b) (fun q hq hs => ⟨⟨hs.1, hs.2.1, hne3 q hq hs.2.2⟩, hs.2.2⟩)).ag (by omega) (agr.mono (fun q hq => hq.2))
          have k3 := (HK4.out.sub (S' := fun b => (wr.heap.size ≤ b ∧ b ≠ gg) ∧ v.ownBlock ≠ some b) (fun q hq (hs : wr.heap.size ≤ q) => by
            have hu : v.ownBlock ≠ some q := fun e => by have := (hlt3 q e).2; omega
            exact ⟨⟨hs, hne3 q hq hu⟩, hu⟩)).ag (by omega) (agr.mono (fun q hq => hq.2))
          have r5 := (SepRow.snoc (nm := nm) (k := kd) (e := exx) (t := tx) k3 (fun q hq hq2 => by have := hq.1.2.1; have := hq2.1.1; omega) r3).sub (S' := fun b => w.heap.size + 3 ≤ b ∧ b < w5.heap.size ∧ (Value.slice (some ⟨gg, 0, none⟩) (j + 1) cap3).ownBlock ≠ some b) (fun q hq hs => by
            refine ⟨?_, hq, fun e => ?_⟩
            · rcases hs with hs | hs
              · exact hs.1.1
              · have := hs.1.1; omega
            · have e' : gg = q := by simpa [Value.ownBlock] using e
              rcases hs with hs | hs
              · exact hs.1.2.2 e'.symm
              · exact hs.1.2 e'.symm)
          refine ⟨B5.trans (kset.below B5.size (fun i hi e => by omega)), (XR4.out.kept (hkeep _ (by omega) n0)).kept (hset _ _ (by omega)), (YR4.out.kept (hkeep _ (by omega) n1)).kept (hset _ _ (by omega)), ?_, Tab.own_kp hown5 kset (fun b hb e => ?_), ?_⟩
          · have := x5.set 3 (.slice (some ⟨gg, 0, none⟩) (j + 1) cap3)
            simpa using this
          · have e' : gg = b := by simpa [Value.ownBlock] using hb
            omega
          · have := r5.ag kset.size (Ag.of_kp kset (fun q _ hq e => by have := hq.1; omega))
            simpa using this)
        clear x4 bb4 b3 gn
        refine wp_region_held_drew (S := fun w' => w'.cell? ⟨w.heap.size, 3, none⟩ = some (.slice (some ⟨sb, off, none⟩) n cap) ∧ w'.cell? ⟨sb, off + j * 5, none⟩ = some (.string nm) ∧ w'.cell? ⟨w3.heap.size, 0, none⟩ = some (.int .i64 kd) ∧ w'.cell? ⟨w3.heap.size, 1, none⟩ = some (.bool exx) ∧ w'.cell? ⟨w3.heap.size, 2, none⟩ = some (.string tx) ∧ w'.cell? ⟨w3.heap.size, 3, none⟩ = some (.slice a5 sub.len c5)) (by kernel_rfl) hS0 (fun hHeld => ?_)
        refine wpAnyH_take (i := 0) (v := ?_) rfl (by kernel_rfl) (by kernel_rfl) (by kernel_rfl) (fun _ _ _ h => h) (Or.inl ⟨by rfl, ?_⟩) (by assumption) ?_
        rotate_left
        · (intro w hSw; go_simp; try with_reducible rfl)
        simp only [Act.put, List.setIfInBounds_toArray, List.set_cons_zero, List.set_cons_succ]
        refine wpAnyH_take (i := 2) (v := ?_) rfl (by kernel_rfl) (by kernel_rfl) (by kernel_rfl) (fun _ _ _ h => h) (Or.inl ⟨by rfl, ?_⟩) (by assumption) ?_
        rotate_left
        · (intro w hSw; go_simp; try with_reducible rfl)
        simp only [Act.put, List.setIfInBounds_toArray, List.set_cons_zero, List.set_cons_succ]
        refine wpAnyH_take (i := 3) (v := ?_) rfl (by kernel_rfl) (by kernel_rfl) (by kernel_rfl) (fun _ _ _ h => h) (Or.inl ⟨by rfl, ?_⟩) (by assumption) ?_
        rotate_left
        · (intro w hSw; go_simp; try with_reducible rfl)
        simp only [Act.put, List.setIfInBounds_toArray, List.set_cons_zero, List.set_cons_succ]
        refine wpAnyH_take (i := 4) (v := ?_) rfl (by kernel_rfl) (by kernel_rfl) (by kernel_rfl) (fun _ _ _ h => h) (Or.inl ⟨by rfl, ?_⟩) (by assumption) ?_
        rotate_left
        · (intro w hSw; go_simp; try with_reducible rfl)
        simp only [Act.put, List.setIfInBounds_toArray, List.set_cons_zero, List.set_cons_succ]
        refine wpAnyH_take (i := 5) (v := ?_) rfl (by kernel_rfl) (by kernel_rfl) (by kernel_rfl) (fun _ _ _ h => h) (Or.inl ⟨by rfl, ?_⟩) (by assumption) ?_
        rotate_left
        · (intro w hSw; go_simp; try with_reducible rfl)
        simp only [Act.put, List.setIfInBounds_toArray, List.set_cons_zero, List.set_cons_succ]
        refine wpAnyH_take (i := 6) (v := ?_) rfl (by kernel_rfl) (by kernel_rfl) (by kernel_rfl) (fun _ _ _ h => h) (Or.inl ⟨by rfl, ?_⟩) (by assumption) ?_
        rotate_left
        · (intro w hSw; go_simp; try with_reducible rfl)
        simp only [Act.put, List.setIfInBounds_toArray, List.set_cons_zero, List.set_cons_succ]
        refine wpAnyH_take (i := 7) (v := ?_) rfl (by kernel_rfl) (by kernel_rfl) (by kernel_rfl) (fun _ _ _ h => h) (Or.inl ⟨by rfl, ?_⟩) (by assumption) ?_
        rotate_left
        · (intro w hSw; go_simp; try with_reducible rfl)
        simp only [Act.put, List.setIfInBounds_toArray, List.set_cons_zero, List.set_cons_succ]
        refine wpAnyH_take (i := 8) (v := ?_) rfl (by kernel_rfl) (by kernel_rfl) (by kernel_rfl) (fun _ _ _ h => h) (Or.inl ⟨by rfl, ?_⟩) (by assumption) ?_
        rotate_left
        · (intro w hSw; go_simp; try with_reducible rfl)
        simp only [Act.put, List.setIfInBounds_toArray, List.set_cons_zero, List.set_cons_succ]
        refine wpAnyH_take (i := 9) (v := ?_) rfl (by kernel_rfl) (by kernel_rfl) (by kernel_rfl) (fun _ _ _ h => h) (Or.inl ⟨by rfl, ?_⟩) (by assumption) ?_
        rotate_left
        · (intro w hSw; go_simp; try with_reducible rfl)
        simp only [Act.put, List.setIfInBounds_toArray, List.set_cons_zero, List.set_cons_succ]
        refine wpAnyH_ready (rs := [1, 10]) (by kernel_rfl) (by simp) ?_
        refine (AllReadyH.cons rfl (fun K hK => ?armA) (AllReadyH.cons rfl (fun K hK => ?armB) AllReadyH.nil))
        case armA =>
          go_simp
          refine hK.out _ _ hS0 (fun hHeld => ?_)
          clear hK K
          refine wpAnyH_ready (rs := [10]) (by kernel_rfl) (by simp) ?_
          refine (AllReadyH.cons rfl (fun K hK => ?_) AllReadyH.nil)
          go_simp
          change K _ ((w4.drew).alloc (.cells #[.string nm, .int .i64 kd, .bool exx, .string tx, .slice a5 sub.len c5] 116))
          refine hK.out _ _ (hS1 _) (fun hHeld => ?_)
          clear hK K
          refine wpAnyH_ready (rs := [11]) (by kernel_rfl) (by simp) ?_
          refine (AllReadyH.cons rfl (fun K hK => ?_) AllReadyH.nil)
          refine step_append_lies _ rfl _ _ 24 rfl (w.heap.size + 3) 116 i0 zeroEnt 5 72 Tryz.underlying24 hi hz0 hz1 hz2 rfl (by omega) v j xs rfl (World.ownsRow.alloc (w := w4.drew) OWN4.out _) ⟨w4.heap.size, 0, none⟩ 1 1 [.string nm, .int .i64 kd, .bool exx, .string tx, .slice a5 sub.len c5] rfl rfl (World.news_of_block (cs := #[.string nm, .int .i64 kd, .bool exx, .string tx, .slice a5 sub.len c5]) (t := 116) (fr := (0, 0)) (heap_alloc_new w4.drew _)) hone (by omega) (by have := NB.out; unfold maxLen; omega) (by have := NB.out; omega) (by have := SZ.out; simp; omega) _ rfl ?_
          intro gg cap3 w5 hown5 hgrow5 hat5 hgl5
          have hF := HFIN.out w5 gg cap3 hown5 hgrow5 hat5 (Lib.hid rfl)
          have hF1 := hF.out.1
          have hv5 := hF1.1
          have hf5 := hF1.2
          refine hK.out _ _ (hF.out.2.1) (fun hHeld => ?_)
          clear hK K
          refine wpAnyH_take (i := 12) (v := ?_) rfl (by kernel_rfl) (by kernel_rfl) (by kernel_rfl) (fun _ _ _ h => h) (Or.inl ⟨by rfl, ?_⟩) (by assumption) ?_
          rotate_left
          · (intro w hSw; go_simp; try with_reducible rfl)
          simp only [Act.put, List.setIfInBounds_toArray, List.set_cons_zero, List.set_cons_succ]
          refine wpAnyH_ready (rs := [13]) (by kernel_rfl) (by simp) ?_
          refine (AllReadyH.cons rfl (fun K hK => ?_) AllReadyH.nil)
          go_simp
          refine hK.out _ _ (hF.out.2.2.1 _) (fun hHeld => ?_)
          clear hK K
          refine wpAnyH_done (by kernel_rfl) ?_ _
          clear hHeld
          try simp only [List.getElem_toArray, List.getElem_cons_zero, List.getElem_cons_succ, List.set_cons_zero, List.set_cons_succ, List.setIfInBounds_toArray]
          have HFF := Lib.hid hF.out.2.2.2
          clear hv5 hf5 hF1 hF hown5 hgrow5 hat5 hgl5 HFIN hv0 hv1 hS0 hS1 hS4 hS4'
          generalize w5.setCell ⟨w.heap.size + 1 + 1, 3, none⟩ (.slice (some ⟨gg, 0, none⟩) (j + 1) cap3) = W at HFF ⊢
          go_wp2_with fail
          have nb := NB.out
          go_roundw
          case rel =>
            obtain ⟨f1, f2, f3, f4, f5, f6⟩ := HFF.out
            exact ⟨j + 1, by omega, by rw [Go.IntWalk.wrap64_in _ (by omega)]; go_num, f1, Lib.hid f2, Lib.hid f3, Lib.hid ⟨_, _, f4, f5, by rw [HD.out]; exact f6⟩⟩
          case measure => rw [Go.IntWalk.wrap64_in _ (by omega)]; simp [intOf]; omega
        case armB =>
          go_simp
          change K _ ((w4.drew).alloc (.cells #[.string nm, .int .i64 kd, .bool exx, .string tx, .slice a5 sub.len c5] 116))
          refine hK.out _ _ (hS1 _) (fun hHeld => ?_)
          clear hK K
          refine wpAnyH_ready (rs := [1]) (by kernel_rfl) (by simp) ?_
          refine (AllReadyH.cons rfl (fun K hK => ?_) AllReadyH.nil)
          have hvW := hv1 (.cells #[.string nm, .int .i64 kd, .bool exx, .string tx, .slice a5 sub.len c5] 116)
          have hsW := hS1 (.cells #[.string nm, .int .i64 kd, .bool exx, .string tx, .slice a5 sub.len c5] 116)
          obtain ⟨W9, hW9⟩ : ∃ W, (w4.drew).alloc (.cells #[.string nm, .int .i64 kd, .bool exx, .string tx, .slice a5 sub.len c5] 116) = W := ⟨_, rfl⟩
          rw [hW9] at hvW hsW ⊢
          go_simp
          refine hK.out _ _ hsW (fun hHeld => ?_)
          clear hK K
          subst hW9
          refine wpAnyH_ready (rs := [11]) (by kernel_rfl) (by simp) ?_
          refine (AllReadyH.cons rfl (fun K hK => ?_) AllReadyH.nil)
          refine step_append_lies _ rfl _ _ 24 rfl (w.heap.size + 3) 116 i0 zeroEnt 5 72 Tryz.underlying24 hi hz0 hz1 hz2 rfl (by omega) v j xs rfl (World.ownsRow.alloc (w := w4.drew) OWN4.out _) ⟨w4.heap.size, 0, none⟩ 1 1 [.string nm, .int .i64 kd, .bool exx, .string tx, .slice a5 sub.len c5] rfl rfl (World.news_of_block (cs := #[.string nm, .int .i64 kd, .bool exx, .string tx, .slice a5 sub.len c5]) (t := 116) (fr := (0, 0)) (heap_alloc_new w4.drew _)) hone (by omega) (by have := NB.out; unfold maxLen; omega) (by have := NB.out; omega) (by have := SZ.out; simp; omega) _ rfl ?_
          intro gg cap3 w5 hown5 hgrow5 hat5 hgl5
          have hF := HFIN.out w5 gg cap3 hown5 hgrow5 hat5 (Lib.hid rfl)
          have hF1 := hF.out.1
          have hv5 := hF1.1
          have hf5 := hF1.2
          refine hK.out _ _ (hF.out.2.1) (fun hHeld => ?_)
          clear hK K
          refine wpAnyH_take (i := 12) (v := ?_) rfl (by kernel_rfl) (by kernel_rfl) (by kernel_rfl) (fun _ _ _ h => h) (Or.inl ⟨by rfl, ?_⟩) (by assumption) ?_
          rotate_left
          · (intro w hSw; go_simp; try with_reducible rfl)
          simp only [Act.put, List.setIfInBounds_toArray, List.set_cons_zero, List.set_cons_succ]
          refine wpAnyH_ready (rs := [13]) (by kernel_rfl) (by simp) ?_
          refine (AllReadyH.cons rfl (fun K hK => ?_) AllReadyH.nil)
          go_simp
          refine hK.out _ _ (hF.out.2.2.1 _) (fun hHeld => ?_)
          clear hK K
          refine wpAnyH_done (by kernel_rfl) ?_ _
          clear hHeld
          try simp only [List.getElem_toArray, List.getElem_cons_zero, List.getElem_cons_succ, List.set_cons_zero, List.set_cons_succ, List.setIfInBounds_toArray]
          have HFF := Lib.hid hF.out.2.2.2
          clear hv5 hf5 hF1 hF hown5 hgrow5 hat5 hgl5 HFIN hv0 hv1 hS0 hS1 hS4 hS4'
          generalize w5.setCell ⟨w.heap.size + 1 + 1, 3, none⟩ (.slice (some ⟨gg, 0, none⟩) (j + 1) cap3) = W at HFF ⊢
          go_wp2_with fail
          have nb := NB.out
          go_roundw
          case rel =>
            obtain ⟨f1, f2, f3, f4, f5, f6⟩ := HFF.out
            exact ⟨j + 1, by omega, by rw [Go.IntWalk.wrap64_in _ (by omega)]; go_num, f1, Lib.hid f2, Lib.hid f3, Lib.hid ⟨_, _, f4, f5, by rw [HD.out]; exact f6⟩⟩
          case measure => rw [Go.IntWalk.wrap64_in _ (by omega)]; simp [intOf]; omega
      · obtain rfl : j = n := by omega
        obtain ⟨a3', c3, hv3⟩ : ∃ a c, v = .slice a j c := by
          rcases HOWN.out.2 with ⟨h, h0⟩ | ⟨g, cp, cur, h, _⟩
          · exact ⟨none, 0, by rw [h, h0]⟩
          · exact ⟨_, _, h⟩
        subst hv3
        rw [Tr.Kids.take_of_le ks j (by rw [Hn.out]; exact Nat.le_refl _)] at HROW
        have c0 : wr.cell? ⟨w.heap.size + 1 + 1, 0, none⟩ = some (.int .i64 k) := ZR.out.cell 0
        have c1 : wr.cell? ⟨w.heap.size + 1 + 1, 1, none⟩ = some (.bool ex) := ZR.out.cell 1
        have c2 : wr.cell? ⟨w.heap.size + 1 + 1, 2, none⟩ = some (.string t) := ZR.out.cell 2
        have c4 : wr.cell? ⟨w.heap.size + 1 + 1, 3, none⟩ = some (.slice a3' j c3) := ZR.out.cell 3
        have d0 : wr.cell? ⟨w.heap.size + 1, 0, none⟩ = some (.int .i64 0) := yr.out.cell 0
        have d1 : wr.cell? ⟨w.heap.size + 1, 1, none⟩ = some (.bool false) := yr.out.cell 1
        have d2 : wr.cell? ⟨w.heap.size + 1, 2, none⟩ = some (.string ⟨#[]⟩) := yr.out.cell 2
        have d3 : wr.cell? ⟨w.heap.size + 1, 3, none⟩ = some (.slice none 0 0) := yr.out.cell 3
        have g0 := yr.out.frozen 0
        have g1 := yr.out.frozen 1
        have g2 := yr.out.frozen 2
        have g3 := yr.out.frozen 3
        go_wp2_with fail
        obtain ⟨W, hW⟩ : ∃ W, (((wr.setCell ⟨w.heap.size + 1, 0, none⟩ (.int .i64 k)).setCell ⟨w.heap.size + 1, 1, none⟩ (.bool ex)).setCell ⟨w.heap.size + 1, 2, none⟩ (.string t)).setCell ⟨w.heap.size + 1, 3, none⟩ (.slice a3' j c3) = W := ⟨_, rfl⟩
        rw [hW]
        have yf : Bx W (w.heap.size + 1) #[.int .i64 k, .bool ex, .string t, .slice a3' j c3] 26 := by
          have := (((yr.out.set 0 (.int .i64 k)).set 1 (.bool ex)).set 2 (.string t)).set 3 (.slice a3' j c3)
          rw [hW] at this
          simpa using this
        have kf : Kp (fun b => b = w.heap.size + 1) wr W := by
          rw [← hW]
          exact ((((Kp.refl (fun b => b = w.heap.size + 1) wr).setCell ⟨w.heap.size + 1, 0, none⟩ _ (fun _ => rfl)).setCell ⟨w.heap.size + 1, 1, none⟩ _ (fun _ => rfl)).setCell ⟨w.heap.size + 1, 2, none⟩ _ (fun _ => rfl)).setCell ⟨w.heap.size + 1, 3, none⟩ _ (fun _ => rfl)
        clear hW
        have hlv := run_loadVar_mid (P := Tryz.prog) W (w.heap.size + 1) 0 26 [.int .i64 k, .bool ex, .string t, .slice a3' j c3] _ yf.range Tryz.underlying26 rfl (by kernel_rfl)
        refine bodyPost_ret (v := .agg #[.int .i64 k, .bool ex, .string t, .slice a3' j c3]) (results_cell Tryz.results100 rfl hlv) rfl ⟨_, rfl, ?_, ?_⟩
        · have hr := HROW.out.ag kf.size (Ag.of_kp kf (fun q _ hq h => by have := hq.1; omega))
          have ho := Tab.own_kp HOWN.out kf (fun b hb h => by have := (HOWN.out.lt b hb).1; omega)
          exact (SepRow.kids (B := w.heap.size + 3) hr (by rw [Hn.out]; exact ho) (fun b hb h => h.2.2 hb)).sub (S' := (w.heap.size ≤ ·)) (fun q _ hq => by
            show w.heap.size ≤ q
            rcases hq with hq | hq
            · have := hq.1; omega
            · have := (HOWN.out.lt q hq).1; omega)
        · exact br.trans (kf.below br.size (fun i hi h => by omega))
theorem cloneC (S : Nat → Prop) (T : Tree) (kv : Value) (w : World) (hk : KidsAt S w kv T.kids) (hb : T.bulk ≤ 4194304) :
    Calls Tryz.prog 100 #[Sum.nodeV T kv] w fun e w' => ∃ kv', e = .returned (Sum.nodeV T kv') ∧ SepK (w.heap.size ≤ ·) w' kv' T.kids ∧ Below w.heap.size w w' := by
  obtain ⟨k, ex, t, ks⟩ := T
  exact cloneN _ k ex t ks kv S w (Nat.lt_succ_self _) (by simp only [Tree.bulk] at hb; omega) hk
end Go.Proofs.YtmmmghpimdfleaaGreatDoor.Clone
