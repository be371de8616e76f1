/-
  tree.Copy: the same tree in new memory, apart (printed out of Copy by tools/mkcopyw.py).
-/
import Derived.Test.YtmmmghpimdfleaaGreatDoorSep
import Derived.Test.YtmmmghpimdfleaaGreatDoorGrpM
set_option linter.unusedVariables false
set_option linter.unusedSimpArgs false
namespace Go.Proofs.YtmmmghpimdfleaaGreatDoor.CopyW
open Go.RowKit Mem Tr
open Go.Proofs.YtmmmghpimdfleaaGreatDoor.Copy (zeroEnt infoEnt below_undrew own_below ent_one)

def PostC (w : World) (k : Int) (ex : Bool) (t : ByteArray) (ks : Tr.Kids) (e : Ending) (w' : World) : Prop :=
  ∃ kv', e = .returned (.agg #[.int .i64 k, .bool ex, .string t, kv']) ∧ SepK (w.heap.size ≤ ·) w' kv' ks ∧ Below w.heap.size w w'

set_option maxHeartbeats 4000000 in
set_option maxRecDepth 20000 in
theorem copyN : ∀ (N : Nat) (k : Int) (ex : Bool) (t : ByteArray) (ks : Tr.Kids) (kv : Value) (S : Nat → Prop) (w : World), ks.bulk < N → ks.bulk ≤ 4194304 → KidsAt S w kv ks →
    Calls Tryz.prog 118 #[.agg #[.int .i64 k, .bool ex, .string t, kv]] w (PostC w k ex t ks) := by
  intro N
  induction N with
  | zero => intro k ex t ks kv S w h; omega
  | succ N ih =>
    intro k ex t ks kv S w hN hB hk
    obtain ⟨i0, hi, hz0, hz1, hz2⟩ := info_parts infoEnt
    obtain ⟨ao, cap, rfl, hcl, hcm, hel⟩ := hk
    have hlen := ks.len_le
    obtain ⟨n, hn⟩ : ∃ n, ks.len = n := ⟨_, rfl⟩
    rw [hn] at hcl hlen ⊢
    have Hn := Lib.hid hn
    have Hel := Lib.hid hel
    have HcL := Lib.hid hcl
    have Hcm := Lib.hid hcm
    have Hlen := Lib.hid hlen
    have HN := Lib.hid hN
    have HB := Lib.hid hB
    have NB := Lib.hid (show n ≤ 600000 by omega)
    clear hn hel hcl hcm hlen hN hB
    go_enter Tryz.func118, Tryz.ntmps118
    go_wp2_with (at_make; refine wpList_make_own _ rfl _ _ 24 rfl (w.heap.size + 2) 116 i0 zeroEnt 5 Tryz.underlying24 hi hz0 hz1 .i64 .i64 _ n rfl rfl ?c1 ?c2 ?c3 ?c4 ?_)
    case c1 => rfl
    case c2 => rw [hz2]; have := NB.out; omega
    case c3 => have := NB.out; unfold maxLen; omega
    case c4 => simp
    intro w1 hown hgrow
    have x1 : Bx w1 w.heap.size #[.int .i64 k, .bool ex, .string t, .slice ao n cap] 26 := ((Bx.new w _ _).alloc _).kept (hgrow.block _ (by simp <;> omega) (by simp))
    have y1 : Bx w1 (w.heap.size + 1) #[.int .i64 0, .bool false, .string ⟨#[]⟩, .slice none 0 0] 26 := by
      have := Bx.new (w.alloc (.cells #[.int .i64 k, .bool ex, .string t, .slice ao n cap] 26)) #[.int .i64 0, .bool false, .string ⟨#[]⟩, .slice none 0 0] 26
      rw [World.size_alloc] at this
      exact this.kept (hgrow.block _ (by simp <;> omega) (by simp))
    have B1 : Below w.heap.size w w1 := (((Below.refl _ w).alloc (Nat.le_refl _) _).alloc (by simp) _).grown hgrow (by simp <;> omega) (by intro k hk; cases hk)
    have z1 : w.heap.size + 2 ≤ w1.heap.size := by have := hgrow.size; simp at this; omega
    have c0 := x1.cell 3
    have Z1 := Lib.hid z1
    clear hgrow z1
    simp at c0
    go_wp2_with fail
    go_loopw [3, 5, 13] (fun v _ i wr => ∃ j : Nat, j ≤ n ∧ i = .int .i64 j ∧ Hid (∃ xs, wr.ownsRow (w.heap.size + 2) 116 5 v j xs ∧ SepRow wr (ks.take j) (fun b => w.heap.size + 2 ≤ b ∧ b < wr.heap.size ∧ v.ownBlock ≠ some b) xs) ∧ Bx wr w.heap.size #[.int .i64 k, .bool ex, .string t, .slice ao n cap] 26 ∧ Bx wr (w.heap.size + 1) #[.int .i64 0, .bool false, .string ⟨#[]⟩, .slice none 0 0] 26 ∧ Below w.heap.size w wr ∧ Hid (w.heap.size + 2 ≤ wr.heap.size)) (fun _ _ i _ => n - (intOf i).toNat)
    case atStart => exact ⟨0, Nat.zero_le _, rfl, Lib.hid ⟨[], hown, by rw [Tr.Kids.take_zero]; rfl⟩, x1, y1, B1, Z1⟩
    case round =>
      obtain ⟨j, hj, rfl, hrow, xr, yr, br, zr⟩ := hrel
      obtain ⟨xs, hown0, hrow0⟩ := hrow.out
      have HOWN := Lib.hid hown0
      have HROW := Lib.hid hrow0
      clear hrow hown0 hrow0
      by_cases hlt : j < n
      · rcases Hel.out with h0 | ⟨sb, off, rfl, hel⟩
        · rw [h0] at Hn
          have := Hn.out
          simp [Tr.Kids.len] at this
          omega
        have helr := hel.below br
        obtain ⟨nm, kd, exx, tx, sub, r, ao2, cap2, hd0, hd1, hSb, g0, g1, g2, g3, g4, hsub, hbk⟩ := helr.at' (j := j) (by rw [Hn.out]; exact hlt)
        have e0 : (0 : Int) ≤ (j : Int) := Int.natCast_nonneg _
        have e1 : (j : Int) < (n : Int) := by omega
        have HD := Lib.hid (ks.take_succ j hd0)
        have hsb1 : sub.bulk < N := by have := HN.out; omega
        have hsb2 : sub.bulk ≤ 4194304 := by have := HB.out; omega
        have HS := Lib.hid hsub
        have HS1 := Lib.hid hsb1
        have HS2 := Lib.hid hsb2
        clear hd0 hd1 hel helr hbk hsub hsb1 hsb2
        go_wp2_with fail
        obtain ⟨w2, hw2⟩ : ∃ W, wr.alloc (.cells #[.string nm, .int .i64 kd, .bool exx, .string tx, .slice ao2 sub.len cap2] 116) = W := ⟨_, rfl⟩
        rw [hw2]
        obtain ⟨bb2, x2⟩ := alloc_fact hw2
        clear hw2 g0 g1 g2 g3 g4
        have hS2 : w2.cell? ⟨wr.heap.size, 0, none⟩ = some (.string nm) ∧ w2.cell? ⟨wr.heap.size, 1, none⟩ = some (.int .i64 kd) ∧ w2.cell? ⟨wr.heap.size, 2, none⟩ = some (.bool exx) ∧ w2.cell? ⟨wr.heap.size, 3, none⟩ = some (.string tx) ∧ w2.cell? ⟨wr.heap.size, 4, none⟩ = some (.slice ao2 sub.len cap2) := ⟨x2.cell 0, x2.cell 1, x2.cell 2, x2.cell 3, x2.cell 4⟩
        have hk2 := HS.out.below bb2
        have X2 := Lib.hid x2
        clear x2
        go_region_held3 (fun w' => w'.cell? ⟨wr.heap.size, 0, none⟩ = some (.string nm) ∧ w'.cell? ⟨wr.heap.size, 1, none⟩ = some (.int .i64 kd) ∧ w'.cell? ⟨wr.heap.size, 2, none⟩ = some (.bool exx) ∧ w'.cell? ⟨wr.heap.size, 3, none⟩ = some (.string tx) ∧ w'.cell? ⟨wr.heap.size, 4, none⟩ = some (.slice ao2 sub.len cap2)) (first | assumption | exact hS3 | go_keep) (first
          | (go_at_call 118; have HC := ih kd exx tx sub (.slice ao2 sub.len cap2) S w2.drew HS1.out HS2.out (hk2.ag (Ag.of_dn ⟨1, rfl⟩)); refine HC.mono ?_; clear HC; rintro e w3 ⟨kv', rfl, hk3, b3⟩; have b3' : Below w2.heap.size w2 w3 := (by first | exact b3 | exact below_undrew b3); have x3 := X2.out.below b3'; have hS3 : w3.cell? ⟨wr.heap.size, 0, none⟩ = some (.string nm) ∧ w3.cell? ⟨wr.heap.size, 1, none⟩ = some (.int .i64 kd) ∧ w3.cell? ⟨wr.heap.size, 2, none⟩ = some (.bool exx) ∧ w3.cell? ⟨wr.heap.size, 3, none⟩ = some (.string tx) ∧ w3.cell? ⟨wr.heap.size, 4, none⟩ = some (.slice ao2 sub.len cap2) := ⟨x3.cell 0, x3.cell 1, x3.cell 2, x3.cell 3, x3.cell 4⟩; clear x3; have hown3 : w3.ownsRow (w.heap.size + 2) 116 5 u3 j xs := own_below (own_below HOWN.out bb2) b3'; have hone : ∀ u ∈ [.string nm, .int .i64 kd, .bool exx, .string tx, kv'], u.oneCell' = true := ent_one hk3.kids)
          | (refine step_append_lies _ (by rfl) _ _ _ (by rfl) (w.heap.size + 2) 116 i0 zeroEnt 5 72 Tryz.underlying24 hi hz0 hz1 hz2 rfl (by omega) u3 j xs (by rfl) (hown3.alloc _) ⟨w3.heap.size, 0, none⟩ 1 1 [.string nm, .int .i64 kd, .bool exx, .string tx, kv'] (by rfl) (by rfl) (World.news_of_block (cs := #[.string nm, .int .i64 kd, .bool exx, .string tx, kv']) (t := 116) (fr := (0, 0)) (heap_alloc_new w3 _)) hone (by omega) (by have := NB.out; unfold maxLen; omega) (by have := NB.out; omega) (by have := zr.out; have := b3'.size; have := bb2.size; simp; omega) _ rfl ?_; intro gg cap3 w5 hown5 hgrow5 hat5 hgl5; have x5 := ((X2.out.below b3').alloc (.cells #[.string nm, .int .i64 kd, .bool exx, .string tx, kv'] 116)).kept (hgrow5.block _ (by simp; have := (X2.out.below b3').lt; omega) (fun e => by have := (HOWN.out.lt _ e.symm).2; omega)); have hS3 : w5.cell? ⟨wr.heap.size, 0, none⟩ = some (.string nm) ∧ w5.cell? ⟨wr.heap.size, 1, none⟩ = some (.int .i64 kd) ∧ w5.cell? ⟨wr.heap.size, 2, none⟩ = some (.bool exx) ∧ w5.cell? ⟨wr.heap.size, 3, none⟩ = some (.string tx) ∧ w5.cell? ⟨wr.heap.size, 4, none⟩ = some (.slice ao2 sub.len cap2) := ⟨x5.cell 0, x5.cell 1, x5.cell 2, x5.cell 3, x5.cell 4⟩; clear x5))
        go_wp2_with fail
        have b5 : Below w.heap.size w3 w5 := ((Below.refl _ w3).alloc (by have := zr.out; have := b3'.size; have := bb2.size; omega) _).grown hgrow5 (by simp; have := zr.out; have := b3'.size; have := bb2.size; omega) (fun k hk => by have := (HOWN.out.lt k hk).1; omega)
        have B3 : Below wr.heap.size wr w3 := bb2.trans (b3'.mono bb2.size)
        have B5 : Below w.heap.size w w5 := (br.trans (B3.mono br.size)).trans b5
        go_roundw
        case rel =>
          have nb := NB.out
          have hlt3 : ∀ b, u3.ownBlock = some b → b < wr.heap.size := fun b hb => (HOWN.out.lt b hb).2
          have z := zr.out
          have s2 := bb2.size
          have s3 := b3'.size
          have agr : Ag (fun b => u3.ownBlock ≠ some b) w3 w5 := fun q hs hq => (hgrow5.block q (by simp; omega) (fun e => hs e.symm)).trans (Below.heap_alloc w3 _ q hq)
          have hne3 : ∀ b, b < w3.heap.size → u3.ownBlock ≠ some b → b ≠ gg := fun b hb hu e => by
            subst e
            rcases hat5 with h | h
            · exact hu h
            · simp at h; omega
          have r3 := ((HROW.out.below B3).sub (S' := fun b => (w.heap.size + 2 ≤ b ∧ b < wr.heap.size ∧ b ≠ gg) ∧ u3.ownBlock ≠ some b) (fun q hq hs => ⟨⟨hs.1, hs.2.1, hne3 q hq hs.2.2⟩, hs.2.2⟩)).ag (Nat.le_trans (by simp) hgrow5.size) (agr.mono (fun q hq => hq.2))
          have k3 := (hk3.sub (S' := fun b => (w2.heap.size ≤ b ∧ b ≠ gg) ∧ u3.ownBlock ≠ some b) (fun q hq (hs : w2.heap.size ≤ q) => by
            have hu : u3.ownBlock ≠ some q := fun e => by have := hlt3 q e; omega
            exact ⟨⟨hs, hne3 q hq hu⟩, hu⟩)).ag (Nat.le_trans (by simp) hgrow5.size) (agr.mono (fun q hq => hq.2))
          have r5 := (SepRow.snoc (nm := nm) (k := kd) (e := exx) (t := tx) k3 (fun q hq hq2 => by have := hq.1.2.1; have := hq2.1.1; omega) r3).sub (S' := fun b => w.heap.size + 2 ≤ b ∧ b < w5.heap.size ∧ (Value.slice (some ⟨gg, 0, none⟩) (j + 1) cap3).ownBlock ≠ some b) (fun q hq hs => by
            refine ⟨?_, hq, fun e => ?_⟩
            · rcases hs with hs | hs
              · exact hs.1.1
              · have := hs.1.1; omega
            · have e' : gg = q := by simpa [Value.ownBlock] using e
              rcases hs with hs | hs
              · exact hs.1.2.2 e'.symm
              · exact hs.1.2 e'.symm)
          have s5 := hgrow5.size
          refine ⟨j + 1, by omega, by rw [Go.IntWalk.wrap64_in _ (by omega)]; go_num, Lib.hid ⟨_, hown5, by rw [HD.out]; exact r5⟩, ?_, ?_, B5, Lib.hid (by simp at s5; omega)⟩
          · exact ((xr.below B3).alloc _).kept (hgrow5.block _ (by simp; omega) (fun e => by have := (HOWN.out.lt _ e.symm).1; omega))
          · exact ((yr.below B3).alloc _).kept (hgrow5.block _ (by simp; omega) (fun e => by have := (HOWN.out.lt _ e.symm).1; omega))
        case measure => have := NB.out; rw [Go.IntWalk.wrap64_in _ (by omega)]; simp [intOf]; omega
      · obtain rfl : j = n := by omega
        have hxr := Lib.hid xr
        have c0 : wr.cell? ⟨w.heap.size, 0, none⟩ = some (.int .i64 k) := xr.cell 0
        have c1 : wr.cell? ⟨w.heap.size, 1, none⟩ = some (.bool ex) := xr.cell 1
        have c2 : wr.cell? ⟨w.heap.size, 2, none⟩ = some (.string t) := xr.cell 2
        have c3 : wr.cell? ⟨w.heap.size, 3, none⟩ = some (.slice ao j cap) := xr.cell 3
        have f3 := xr.frozen 3
        have d0 : wr.cell? ⟨w.heap.size + 1, 0, none⟩ = some (.int .i64 0) := yr.cell 0
        have d1 : wr.cell? ⟨w.heap.size + 1, 1, none⟩ = some (.bool false) := yr.cell 1
        have d2 : wr.cell? ⟨w.heap.size + 1, 2, none⟩ = some (.string ⟨#[]⟩) := yr.cell 2
        have d3 : wr.cell? ⟨w.heap.size + 1, 3, none⟩ = some (.slice none 0 0) := yr.cell 3
        have g0 := yr.frozen 0
        have g1 := yr.frozen 1
        have g2 := yr.frozen 2
        have g3 := yr.frozen 3
        rw [Tr.Kids.take_of_le ks j (by rw [Hn.out]; exact Nat.le_refl _)] at HROW
        obtain ⟨a3, c3, hv3⟩ : ∃ a c, u3 = .slice a j c := by
          rcases HOWN.out.2 with ⟨h, h0⟩ | ⟨g, cp, cur, h, _⟩
          · exact ⟨none, 0, by rw [h, h0]⟩
          · exact ⟨_, _, h⟩
        subst hv3
        have YR := Lib.hid yr
        clear xr yr
        go_wp2_with fail
        obtain ⟨W, hW⟩ : ∃ W, ((((wr.setCell ⟨w.heap.size, 3, none⟩ (.slice a3 j c3)).setCell ⟨w.heap.size + 1, 0, none⟩ (.int .i64 k)).setCell ⟨w.heap.size + 1, 1, none⟩ (.bool ex)).setCell ⟨w.heap.size + 1, 2, none⟩ (.string t)).setCell ⟨w.heap.size + 1, 3, none⟩ (.slice a3 j c3) = W := ⟨_, rfl⟩
        rw [hW]
        have yf : Bx W (w.heap.size + 1) #[.int .i64 k, .bool ex, .string t, .slice a3 j c3] 26 := by
          have := ((((YR.out.set_other (p := ⟨w.heap.size, 3, none⟩) (.slice a3 j c3) (by simp)).set 0 (.int .i64 k)).set 1 (.bool ex)).set 2 (.string t)).set 3 (.slice a3 j c3)
          rw [hW] at this
          simpa using this
        have kf : Kp (fun b => b = w.heap.size ∨ b = w.heap.size + 1) wr W := by
          rw [← hW]
          exact (((((Kp.refl _ wr).setCell ⟨w.heap.size, 3, none⟩ _ (fun _ => .inl rfl)).setCell ⟨w.heap.size + 1, 0, none⟩ _ (fun _ => .inr rfl)).setCell ⟨w.heap.size + 1, 1, none⟩ _ (fun _ => .inr rfl)).setCell ⟨w.heap.size + 1, 2, none⟩ _ (fun _ => .inr rfl)).setCell ⟨w.heap.size + 1, 3, none⟩ _ (fun _ => .inr rfl)
        clear hW
        have hlv := run_loadVar_mid (P := Tryz.prog) W (w.heap.size + 1) 0 26 [.int .i64 k, .bool ex, .string t, .slice a3 j c3] _ yf.range Tryz.underlying26 rfl (by kernel_rfl)
        refine bodyPost_ret (v := .agg #[.int .i64 k, .bool ex, .string t, .slice a3 j c3]) (results_cell Tryz.results118 rfl hlv) rfl ⟨_, rfl, ?_, ?_⟩
        · have hr := HROW.out.ag kf.size (Ag.of_kp kf (fun q _ hq h => by rcases h with rfl | rfl <;> have := hq.1 <;> omega))
          have ho := Tab.own_kp HOWN.out kf (fun b hb h => by have := (HOWN.out.lt b hb).1; rcases h with rfl | rfl <;> omega)
          exact (SepRow.kids (B := w.heap.size + 2) hr (by rw [Hn.out]; exact ho) (fun b hb h => h.2.2 hb)).sub (S' := (w.heap.size ≤ ·)) (fun q _ hq => by
            show w.heap.size ≤ q
            rcases hq with hq | hq
            · have := hq.1; omega
            · have := (HOWN.out.lt q hq).1; omega)
        · exact br.trans (kf.below br.size (fun i hi h => by rcases h with rfl | rfl <;> omega))
theorem copyC (S : Nat → Prop) (T : Tree) (kv : Value) (w : World) (hk : KidsAt S w kv T.kids) (hb : T.bulk ≤ 4194304) :
    Calls Tryz.prog 118 #[Sum.nodeV T kv] w fun e w' => ∃ kv', e = .returned (Sum.nodeV T kv') ∧ SepK (w.heap.size ≤ ·) w' kv' T.kids ∧ Below w.heap.size w w' := by
  obtain ⟨k, ex, t, ks⟩ := T
  exact copyN _ k ex t ks kv S w (Nat.lt_succ_self _) (by simp only [Tree.bulk] at hb; omega) hk
end Go.Proofs.YtmmmghpimdfleaaGreatDoor.CopyW
