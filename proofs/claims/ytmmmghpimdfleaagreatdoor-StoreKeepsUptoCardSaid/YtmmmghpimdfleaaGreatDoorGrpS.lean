/-
  container/heap over store.least: the methods, up, down, Push, Pop.
  container/heap over store.least: Pop of the interface; heap.Push, heap.Pop.
  The heap's law over plain lists: what up and down leave is a heap, with the same elements; the first is the least.
-/
import Derived.Test.YtmmmghpimdfleaaGreatDoorGrpR
import Derived.Handy
import Derived.BigQuiet
import Derived.Laws.OwnMore
import Derived.Deep.RegionLaw
import Derived.Deep.AppendLies
set_option linter.unusedVariables false
set_option linter.unusedSimpArgs false
namespace Go.Proofs.YtmmmghpimdfleaaGreatDoor.Hp
open Go.RowKit Mem Tr
open Go.Proofs.YtmmmghpimdfleaaGreatDoor.Own
open Go.Proofs.YtmmmghpimdfleaaGreatDoor.Tab (own_box own_kp own_block)

def at' (xs : List ByteArray) (i : Nat) : ByteArray := xs.getD i ⟨#[]⟩
def sw (xs : List ByteArray) (i j : Nat) : List ByteArray := (xs.set i (at' xs j)).set j (at' xs i)
def strs (xs : List ByteArray) : List Value := xs.map .string
abbrev Row (w : World) (v : Value) (n : Nat) (xs : List ByteArray) : Prop := w.ownsRow 0 9 1 v n (strs xs)
theorem Row.len {w : World} {v : Value} {n : Nat} {xs : List ByteArray} (h : Row w v n xs) : xs.length = n := by
  have := h.1
  simpa [strs] using this

theorem strs_get (xs : List ByteArray) (i : Nat) (h : i < xs.length) : (strs xs)[i]? = some (.string (at' xs i)) := by
  unfold strs at'
  rw [List.getElem?_map, List.getElem?_eq_getElem h, List.getD_eq_getElem?_getD, List.getElem?_eq_getElem h]
  rfl

set_option maxRecDepth 20000 in
theorem lessC (g n cap : Nat) (xs : List ByteArray) (i j : Nat) (hi : i < n) (hj : j < n) (w : World) (h : Row w (.slice (some ⟨g, 0, none⟩) n cap) n xs) :
    Calls Tryz.prog 261 #[.slice (some ⟨g, 0, none⟩) n cap, .int .i64 i, .int .i64 j] w fun e w' => e = .returned (.bool (Sp.lt (at' xs i) (at' xs j))) ∧ Dn w w' := by
  have c1 := (h.cellAt i (by omega)).trans (strs_get xs i (by have := h.len; omega))
  have c2 := (h.cellAt j (by omega)).trans (strs_get xs j (by have := h.len; omega))
  have l1 : (0 : Int) ≤ (i : Int) := Int.natCast_nonneg _
  have l2 : (0 : Int) ≤ (j : Int) := Int.natCast_nonneg _
  have l3 : (i : Int) < (n : Int) := by omega
  have l4 : (j : Int) < (n : Int) := by omega
  unfold Sp.lt
  obtain ⟨x, hx⟩ : ∃ x, at' xs i = x := ⟨_, rfl⟩
  obtain ⟨y, hy⟩ : ∃ x, at' xs j = x := ⟨_, rfl⟩
  rw [hx] at c1 ⊢
  rw [hy] at c2 ⊢
  clear h hx hy
  go_enter Tryz.func261, Tryz.ntmps261
  go_wp2_with fail
  go_quiet (fail)
  go_wp2_with fail
  go_ret
  trace_state
  exact ⟨rfl, Dn.drewN _ _⟩

set_option maxRecDepth 20000 in
theorem lenC (n : Nat) (xs : List ByteArray) (v : Value) (w : World) (h : Row w v n xs) :
    Calls Tryz.prog 90 #[v] w fun e w' => e = .returned (.int .i64 n) ∧ w' = w := by
  obtain ⟨ao, cap, rfl⟩ : ∃ ao cap, v = .slice ao n cap := by
    rcases h.2 with ⟨hv, hn⟩ | ⟨g, cap, cur, hv, _⟩
    · exact ⟨_, _, by rw [hn]; exact hv⟩
    · exact ⟨_, _, hv⟩
  clear h
  go_enter Tryz.func90, Tryz.ntmps90
  go_wp2_with fail
  go_ret
  exact ⟨rfl, rfl⟩

theorem sw_strs (xs : List ByteArray) (i j : Nat) (hi : i < xs.length) (hj : j < xs.length) : ((strs xs).set i (.string (at' xs j))).set j (.string (at' xs i)) = strs (sw xs i j) := by
  unfold strs sw
  rw [List.map_set, List.map_set]
theorem sw_length (xs : List ByteArray) (i j : Nat) : (sw xs i j).length = xs.length := by simp [sw]

set_option maxRecDepth 20000 in
theorem swapC (g n cap : Nat) (xs : List ByteArray) (i j : Nat) (hi : i < n) (hj : j < n) (w : World) (h : Row w (.slice (some ⟨g, 0, none⟩) n cap) n xs) :
    Calls Tryz.prog 264 #[.slice (some ⟨g, 0, none⟩) n cap, .int .i64 i, .int .i64 j] w fun e w' => e = .returned (.tuple #[]) ∧ Kp (· = g) w w' ∧ Row w' (.slice (some ⟨g, 0, none⟩) n cap) n (sw xs i j) := by
  have c1 := (h.cellAt i (by omega)).trans (strs_get xs i (by have := h.len; omega))
  have c2 := (h.cellAt j (by omega)).trans (strs_get xs j (by have := h.len; omega))
  have f1 := h.frozenAt i
  have f2 := h.frozenAt j
  have l1 : (0 : Int) ≤ (i : Int) := Int.natCast_nonneg _
  have l2 : (0 : Int) ≤ (j : Int) := Int.natCast_nonneg _
  have HS := sw_strs xs i j (by have := h.len; omega) (by have := h.len; omega)
  have H := Lib.hid h
  have l3 : (i : Int) < (n : Int) := by omega
  have l4 : (j : Int) < (n : Int) := by omega
  obtain ⟨x, hx⟩ : ∃ x, at' xs i = x := ⟨_, rfl⟩
  obtain ⟨y, hy⟩ : ∃ x, at' xs j = x := ⟨_, rfl⟩
  rw [hx] at c1 HS
  rw [hy] at c2 HS
  have HS' := Lib.hid HS
  obtain ⟨v', hy'⟩ := cell?_setCell_some (w := w) (p := ⟨g, i, none⟩) (x := .string y) (q := ⟨g, j, none⟩) (v := .string y) (by go_simp)
  clear h hx hy HS
  go_enter Tryz.func264, Tryz.ntmps264
  go_wp2_with fail
  go_region
  all_goals go_end0
  all_goals refine ⟨rfl, ?_, ?_⟩
  · have h0 := ((Kp.refl (· = g) w).setCell ⟨g, i, none⟩ (.string y) (fun _ => rfl)).setCell ⟨g, j, none⟩ (.string x) (fun _ => rfl)
    exact kp_drew h0
  · have h1 := (H.out.stored i (.string y)).1.stored j (.string x)
    rw [HS'.out] at h1
    exact h1.1

def upL (xs : List ByteArray) (j : Nat) : List ByteArray :=
  if h : j = 0 then xs else if Sp.lt (at' xs j) (at' xs ((j - 1) / 2)) = true then upL (sw xs ((j - 1) / 2) j) ((j - 1) / 2) else xs
termination_by j
decreasing_by omega

theorem meth_val {name : String} {f : Nat} (b : Nat) (ao : Option Addr) (n c : Nat) (w : World) (h : w.cell? ⟨b, 0, none⟩ = some (.slice ao n c))
    (key : ∃ m, Array.find? (fun x => x.name == name) Tryz.t130.methods = some m ∧ m.path = #[] ∧ m.func = some (f, false)) : (method 407 130 (.pointer (some ⟨b, 0, none⟩)) name).run Tryz.prog w = .ok (f, .slice ao n c) w := by
  obtain ⟨m, h1, h2, h3⟩ := key
  rw [method]
  go_simp
  unfold follow
  go_simp
  unfold receiverAt
  go_simp
  unfold Place.get
  go_simp
  have hs : ∀ x : ByteArray, (Builtin.ssaWrapNilChk_ #[130] 130 #[.pointer (some ⟨b, 0, none⟩), strVal "", .string x]).run Tryz.prog w = .ok (.pointer (some ⟨b, 0, none⟩)) w := fun x => rfl
  rw [show strVal ((name.splitOn ".").getLast?.getD name) = .string ((name.splitOn ".").getLast?.getD name).toUTF8 from rfl, hs]
  go_simp
theorem meth_ptr {name : String} {f : Nat} (b : Nat) (w : World)
    (key : ∃ m, Array.find? (fun x => x.name == name) Tryz.t130.methods = some m ∧ m.path = #[] ∧ m.func = some (f, true)) : (method 407 130 (.pointer (some ⟨b, 0, none⟩)) name).run Tryz.prog w = .ok (f, .pointer (some ⟨b, 0, none⟩)) w := by
  obtain ⟨m, h1, h2, h3⟩ := key
  rw [method]
  go_simp
  unfold follow
  go_simp
  unfold receiverAt
  go_simp
  unfold Place.get
  go_simp
theorem meth_len (b : Nat) (ao : Option Addr) (n c : Nat) (w : World) (h : w.cell? ⟨b, 0, none⟩ = some (.slice ao n c)) : (method 407 130 (.pointer (some ⟨b, 0, none⟩)) "Len").run Tryz.prog w = .ok (90, .slice ao n c) w :=
  meth_val b ao n c w h ⟨Tryz.t130.methods.getD 0 default, by kernel_rfl, by kernel_rfl, by kernel_rfl⟩
theorem meth_less (b : Nat) (ao : Option Addr) (n c : Nat) (w : World) (h : w.cell? ⟨b, 0, none⟩ = some (.slice ao n c)) : (method 407 130 (.pointer (some ⟨b, 0, none⟩)) "Less").run Tryz.prog w = .ok (261, .slice ao n c) w :=
  meth_val b ao n c w h ⟨Tryz.t130.methods.getD 1 default, by kernel_rfl, by kernel_rfl, by kernel_rfl⟩
theorem meth_swap (b : Nat) (ao : Option Addr) (n c : Nat) (w : World) (h : w.cell? ⟨b, 0, none⟩ = some (.slice ao n c)) : (method 407 130 (.pointer (some ⟨b, 0, none⟩)) "Swap").run Tryz.prog w = .ok (264, .slice ao n c) w :=
  meth_val b ao n c w h ⟨Tryz.t130.methods.getD 4 default, by kernel_rfl, by kernel_rfl, by kernel_rfl⟩
theorem meth_pop (b : Nat) (w : World) : (method 407 130 (.pointer (some ⟨b, 0, none⟩)) "Pop").run Tryz.prog w = .ok (262, .pointer (some ⟨b, 0, none⟩)) w :=
  meth_ptr b w ⟨Tryz.t130.methods.getD 2 default, by kernel_rfl, by kernel_rfl, by kernel_rfl⟩
theorem meth_push (b : Nat) (w : World) : (method 407 130 (.pointer (some ⟨b, 0, none⟩)) "Push").run Tryz.prog w = .ok (263, .pointer (some ⟨b, 0, none⟩)) w :=
  meth_ptr b w ⟨Tryz.t130.methods.getD 3 default, by kernel_rfl, by kernel_rfl, by kernel_rfl⟩

set_option maxRecDepth 20000 in
theorem upC (b g n cap : Nat) (xs : List ByteArray) (j : Nat) (hj : j < n) (hm : n ≤ 1073741824) (w : World) (hx : Bx w b #[.slice (some ⟨g, 0, none⟩) n cap] 131) (h : Row w (.slice (some ⟨g, 0, none⟩) n cap) n xs) :
    Calls Tryz.prog 130 #[.iface 130 (.pointer (some ⟨b, 0, none⟩)), .int .i64 j] w fun e w' => e = .returned (.tuple #[]) ∧ Kp (· = g) w w' ∧ Row w' (.slice (some ⟨g, 0, none⟩) n cap) n (upL xs j) := by
  have hgb : ¬ b = g := fun e => own_box h hx (by decide) (by rw [e]; rfl)
  go_enter Tryz.func130, Tryz.ntmps130
  go_wp2_with fail
  go_loopw [1] (fun i wr => ∃ (k : Nat) (ys : List ByteArray), i = .int .i64 k ∧ k < n ∧ Hid (Row wr (.slice (some ⟨g, 0, none⟩) n cap) n ys ∧ Kp (· = g) w wr ∧ upL ys k = upL xs j)) (fun i _ => (intOf i).toNat)
  case atStart => exact ⟨j, xs, rfl, hj, Lib.hid ⟨h, Kp.refl _ _, rfl⟩⟩
  case round =>
    obtain ⟨k, ys, rfl, hkn, HI⟩ := hrel
    have hxr := hx.kp HI.out.2.1 hgb
    have d0 := hxr.cell 0
    have HXR := Lib.hid hxr
    clear hxr hj
    have hkr : (0 : Int) ≤ (k : Int) := Int.natCast_nonneg _
    by_cases h0 : k = 0
    · subst h0
      go_wp2_with fail
      go_end0
      refine ⟨rfl, HI.out.2.1, ?_⟩
      have h1 := HI.out.2.2
      rw [show upL ys 0 = ys by rw [upL, dif_pos rfl]] at h1
      rw [← h1]
      exact HI.out.1
    · obtain ⟨i, hi⟩ : ∃ i, (k - 1) / 2 = i := ⟨_, rfl⟩
      have hik : i < k := by omega
      have hi2 : ((k : Int) - 1) / 2 = (i : Int) := by omega
      have hi3 : ((i : Int) == (k : Int)) = false := by simp; omega
      have HU := Lib.hid (show upL ys k = if Sp.lt (at' ys k) (at' ys i) = true then upL (sw ys i k) i else ys by rw [upL, dif_neg h0, hi])
      have HIK := Lib.hid hik
      clear h0 hi hik
      have m1 := meth_less b _ _ _ wr d0
      go_wp2_with fail
      refine (lessC g n cap ys k i hkn (by have := HIK.out; omega) wr HI.out.1).mono ?_
      rintro e w1 ⟨rfl, dn1⟩
      cases hlt : Sp.lt (at' ys k) (at' ys i) with
      | false =>
        have HU' := Lib.hid (show upL ys k = ys by rw [HU.out, hlt]; rfl)
        clear hlt
        go_wp2_with fail
        go_end0
        refine ⟨rfl, HI.out.2.1.then (Kp.of_dn dn1), ?_⟩
        rw [← HI.out.2.2, HU'.out]
        exact own_kp HI.out.1 (Kp.of_dn (M := fun _ => False) dn1) (fun _ _ h => h)
      | true =>
        have HU' := Lib.hid (show upL ys k = upL (sw ys i k) i by rw [HU.out, hlt]; rfl)
        clear hlt
        have m2 := meth_swap b _ _ _ w1 ((dn1.cell _).trans d0)
        go_wp2_with fail
        refine (swapC g n cap ys i k (by have := HIK.out; omega) hkn w1 (own_kp HI.out.1 (Kp.of_dn (M := fun _ => False) dn1) (fun _ _ h => h))).mono ?_
        rintro e w2 ⟨rfl, hk2, hr2⟩
        have HI2 := Lib.hid (show Row w2 (.slice (some ⟨g, 0, none⟩) n cap) n (sw ys i k) ∧ Kp (· = g) w w2 ∧ upL (sw ys i k) i = upL xs j from ⟨hr2, (HI.out.2.1.then (Kp.of_dn dn1)).then hk2, by rw [← HI.out.2.2, HU'.out]⟩)
        clear hr2 hk2
        go_wp2_with fail
        go_roundw
        case rel => exact ⟨i, sw ys i k, rfl, by have := HIK.out; omega, HI2⟩
        case measure => have := HIK.out; simp [intOf]; omega

/-- the child that 'down' looks at -/
def child (xs : List ByteArray) (i n : Nat) : Nat := if 2 * i + 2 < n ∧ Sp.lt (at' xs (2 * i + 2)) (at' xs (2 * i + 1)) = true then 2 * i + 2 else 2 * i + 1
def downL (xs : List ByteArray) (i n : Nat) : List ByteArray :=
  if h : n ≤ 2 * i + 1 then xs else if Sp.lt (at' xs (child xs i n)) (at' xs i) = true then downL (sw xs i (child xs i n)) (child xs i n) n else xs
termination_by n - i
decreasing_by unfold child; split <;> omega

set_option maxRecDepth 20000 in
set_option maxHeartbeats 4000000 in
theorem downC (b g n m cap : Nat) (xs : List ByteArray) (i0 : Nat) (hi0 : i0 ≤ m) (hmn : m ≤ n) (hm : n ≤ 1073741824) (w : World) (hx : Bx w b #[.slice (some ⟨g, 0, none⟩) n cap] 131) (h : Row w (.slice (some ⟨g, 0, none⟩) n cap) n xs) :
    Calls Tryz.prog 131 #[.iface 130 (.pointer (some ⟨b, 0, none⟩)), .int .i64 i0, .int .i64 m] w fun e w' => (∃ u, e = .returned (.bool u)) ∧ Kp (· = g) w w' ∧ Row w' (.slice (some ⟨g, 0, none⟩) n cap) n (downL xs i0 m) := by
  have hgb : ¬ b = g := fun e => own_box h hx (by decide) (by rw [e]; rfl)
  go_enter Tryz.func131, Tryz.ntmps131
  go_wp2_with fail
  go_loopw [7] (fun i wr => ∃ (k : Nat) (ys : List ByteArray), i = .int .i64 k ∧ k ≤ m ∧ Hid (Row wr (.slice (some ⟨g, 0, none⟩) n cap) n ys ∧ Kp (· = g) w wr ∧ downL ys k m = downL xs i0 m)) (fun i _ => m - (intOf i).toNat)
  case atStart => exact ⟨i0, xs, rfl, hi0, Lib.hid ⟨h, Kp.refl _ _, rfl⟩⟩
  case round =>
    obtain ⟨k, ys, rfl, hkm, HI⟩ := hrel
    have hxr := hx.kp HI.out.2.1 hgb
    have d0 := hxr.cell 0
    have HXR := Lib.hid hxr
    clear hxr
    have hkr : (0 : Int) ≤ (k : Int) := Int.natCast_nonneg _
    have hkb : (k : Int) ≤ 1073741824 := by omega
    obtain ⟨c1, hc1⟩ : ∃ c, 2 * k + 1 = c := ⟨_, rfl⟩
    have e1 : 2 * (k : Int) + 1 = (c1 : Int) := by omega
    by_cases h0 : m ≤ c1
    · have t1 : (m : Int) ≤ (c1 : Int) := by omega
      have HU := Lib.hid (show downL ys k m = ys by rw [downL, dif_pos (by omega)])
      clear hc1 h0
      go_wp2_with fail
      go_ret
      refine ⟨⟨_, rfl⟩, HI.out.2.1, ?_⟩
      rw [← HI.out.2.2, HU.out]
      exact HI.out.1
    · have t1 : decide ((m : Int) ≤ (c1 : Int)) = false := by rw [decide_eq_false_iff_not]; omega
      have t2 : decide ((c1 : Int) < 0) = false := by rw [decide_eq_false_iff_not]; omega
      have HU := Lib.hid (show downL ys k m = if Sp.lt (at' ys (child ys k m)) (at' ys k) = true then downL (sw ys k (child ys k m)) (child ys k m) m else ys by rw [downL, dif_neg (by omega)])
      have HKM := Lib.hid (show k < m by omega)
      obtain ⟨c2, hc2⟩ : ∃ c, 2 * k + 2 = c := ⟨_, rfl⟩
      have e2 : (c1 : Int) + 1 = (c2 : Int) := by omega
      by_cases h2 : c2 < m
      · have t3 : (c2 : Int) < (m : Int) := by omega
        have HCH := Lib.hid (show child ys k m = if Sp.lt (at' ys c2) (at' ys c1) = true then c2 else c1 by unfold child; rw [hc1, hc2]; simp [h2])
        have HA := Lib.hid (show k < c1 ∧ c1 < m ∧ k < c2 ∧ c2 < m by omega)
        clear hc1 hc2 h0 h2 hkm
        have m1 := meth_less b _ _ _ wr d0
        go_wp2_with fail
        refine (lessC g n cap ys c2 c1 (by have := HA.out; omega) (by have := HA.out; omega) wr HI.out.1).mono ?_
        rintro e w1 ⟨rfl, dn1⟩
        clear m1
        cases hll : Sp.lt (at' ys c2) (at' ys c1) with
        | true =>
          have HC := Lib.hid (show child ys k m = c2 by rw [HCH.out, hll]; rfl)
          have HCM := Lib.hid HA.out.2.2.2
          have HKC := Lib.hid HA.out.2.2.1
          clear hll
          have m3 := meth_less b _ _ _ w1 ((dn1.cell _).trans d0)
          go_wp2_with fail
          refine (lessC g n cap ys c2 k (Nat.lt_of_lt_of_le HCM.out hmn) (Nat.lt_of_lt_of_le HKM.out hmn) w1 (own_kp HI.out.1 (Kp.of_dn (M := fun _ => False) dn1) (fun _ _ h => h))).mono ?_
          rintro e w3 ⟨rfl, dn3⟩
          have DN3 := Lib.hid (dn1.trans dn3)
          clear dn3 m3
          cases hlt : Sp.lt (at' ys c2) (at' ys k) with
          | false =>
            have HU' := Lib.hid (show downL ys k m = ys by rw [HU.out, HC.out, hlt]; rfl)
            clear hlt
            go_wp2_with fail
            go_ret
            refine ⟨⟨_, rfl⟩, HI.out.2.1.then (Kp.of_dn DN3.out), ?_⟩
            rw [← HI.out.2.2, HU'.out]
            exact own_kp HI.out.1 (Kp.of_dn (M := fun _ => False) DN3.out) (fun _ _ h => h)
          | true =>
            have HU' := Lib.hid (show downL ys k m = downL (sw ys k c2) c2 m by rw [HU.out, HC.out, hlt]; rfl)
            clear hlt
            have m4 := meth_swap b _ _ _ w3 ((DN3.out.cell _).trans d0)
            go_wp2_with fail
            refine (swapC g n cap ys k c2 (Nat.lt_of_lt_of_le HKM.out hmn) (Nat.lt_of_lt_of_le HCM.out hmn) w3 (own_kp HI.out.1 (Kp.of_dn (M := fun _ => False) DN3.out) (fun _ _ h => h))).mono ?_
            rintro e w4 ⟨rfl, hk4, hr4⟩
            have HI2 := Lib.hid (show Row w4 (.slice (some ⟨g, 0, none⟩) n cap) n (sw ys k c2) ∧ Kp (· = g) w w4 ∧ downL (sw ys k c2) c2 m = downL xs i0 m from ⟨hr4, (HI.out.2.1.then (Kp.of_dn DN3.out)).then hk4, by rw [← HI.out.2.2, HU'.out]⟩)
            clear hr4 hk4
            go_wp2_with fail
            go_roundw
            case rel => exact ⟨c2, sw ys k c2, by first | rfl | go_num, Nat.le_of_lt HCM.out, HI2⟩
            case measure => have := HKC.out; have := HCM.out; simp [intOf]; omega
        | false =>
          have HC := Lib.hid (show child ys k m = c1 by rw [HCH.out, hll]; rfl)
          have HCM := Lib.hid HA.out.2.1
          have HKC := Lib.hid HA.out.1
          clear hll
          have m3 := meth_less b _ _ _ w1 ((dn1.cell _).trans d0)
          go_wp2_with fail
          refine (lessC g n cap ys c1 k (Nat.lt_of_lt_of_le HCM.out hmn) (Nat.lt_of_lt_of_le HKM.out hmn) w1 (own_kp HI.out.1 (Kp.of_dn (M := fun _ => False) dn1) (fun _ _ h => h))).mono ?_
          rintro e w3 ⟨rfl, dn3⟩
          have DN3 := Lib.hid (dn1.trans dn3)
          clear dn3 m3
          cases hlt : Sp.lt (at' ys c1) (at' ys k) with
          | false =>
            have HU' := Lib.hid (show downL ys k m = ys by rw [HU.out, HC.out, hlt]; rfl)
            clear hlt
            go_wp2_with fail
            go_ret
            refine ⟨⟨_, rfl⟩, HI.out.2.1.then (Kp.of_dn DN3.out), ?_⟩
            rw [← HI.out.2.2, HU'.out]
            exact own_kp HI.out.1 (Kp.of_dn (M := fun _ => False) DN3.out) (fun _ _ h => h)
          | true =>
            have HU' := Lib.hid (show downL ys k m = downL (sw ys k c1) c1 m by rw [HU.out, HC.out, hlt]; rfl)
            clear hlt
            have m4 := meth_swap b _ _ _ w3 ((DN3.out.cell _).trans d0)
            go_wp2_with fail
            refine (swapC g n cap ys k c1 (Nat.lt_of_lt_of_le HKM.out hmn) (Nat.lt_of_lt_of_le HCM.out hmn) w3 (own_kp HI.out.1 (Kp.of_dn (M := fun _ => False) DN3.out) (fun _ _ h => h))).mono ?_
            rintro e w4 ⟨rfl, hk4, hr4⟩
            have HI2 := Lib.hid (show Row w4 (.slice (some ⟨g, 0, none⟩) n cap) n (sw ys k c1) ∧ Kp (· = g) w w4 ∧ downL (sw ys k c1) c1 m = downL xs i0 m from ⟨hr4, (HI.out.2.1.then (Kp.of_dn DN3.out)).then hk4, by rw [← HI.out.2.2, HU'.out]⟩)
            clear hr4 hk4
            go_wp2_with fail
            go_roundw
            case rel => exact ⟨c1, sw ys k c1, by first | rfl | go_num, Nat.le_of_lt HCM.out, HI2⟩
            case measure => have := HKC.out; have := HCM.out; simp [intOf]; omega
      · have t3 : decide ((c2 : Int) < (m : Int)) = false := by rw [decide_eq_false_iff_not]; omega
        have t4 : (m : Int) ≤ (c2 : Int) := by omega
        have t5 : decide (c2 < m) = false := by rw [decide_eq_false_iff_not]; omega
        have t6 : m ≤ c2 := by omega
        have HC := Lib.hid (show child ys k m = c1 by unfold child; rw [hc1, hc2]; simp [h2])
        have HCM := Lib.hid (show c1 < m by omega)
        have HKC := Lib.hid (show k < c1 by omega)
        clear hc1 hc2 h0 h2 hkm
        have m3 := meth_less b _ _ _ wr (((Dn.refl wr).cell _).trans d0)
        go_wp2_with fail
        have a1 : c1 < n := Nat.lt_of_lt_of_le HCM.out hmn
        have a2 : k < n := Nat.lt_of_lt_of_le HKM.out hmn
        have hC := lessC g n cap ys c1 k a1 a2 wr HI.out.1
        refine hC.mono ?_
        rintro e w3 ⟨rfl, dn3⟩
        have DN3 := Lib.hid ((Dn.refl wr).trans dn3)
        clear dn3 m3
        cases hlt : Sp.lt (at' ys c1) (at' ys k) with
        | false =>
          have HU' := Lib.hid (show downL ys k m = ys by rw [HU.out, HC.out, hlt]; rfl)
          clear hlt
          go_wp2_with fail
          go_ret
          refine ⟨⟨_, rfl⟩, HI.out.2.1.then (Kp.of_dn DN3.out), ?_⟩
          rw [← HI.out.2.2, HU'.out]
          exact own_kp HI.out.1 (Kp.of_dn (M := fun _ => False) DN3.out) (fun _ _ h => h)
        | true =>
          have HU' := Lib.hid (show downL ys k m = downL (sw ys k c1) c1 m by rw [HU.out, HC.out, hlt]; rfl)
          clear hlt
          have m4 := meth_swap b _ _ _ w3 ((DN3.out.cell _).trans d0)
          go_wp2_with fail
          refine (swapC g n cap ys k c1 (Nat.lt_of_lt_of_le HKM.out hmn) (Nat.lt_of_lt_of_le HCM.out hmn) w3 (own_kp HI.out.1 (Kp.of_dn (M := fun _ => False) DN3.out) (fun _ _ h => h))).mono ?_
          rintro e w4 ⟨rfl, hk4, hr4⟩
          have HI2 := Lib.hid (show Row w4 (.slice (some ⟨g, 0, none⟩) n cap) n (sw ys k c1) ∧ Kp (· = g) w w4 ∧ downL (sw ys k c1) c1 m = downL xs i0 m from ⟨hr4, (HI.out.2.1.then (Kp.of_dn DN3.out)).then hk4, by rw [← HI.out.2.2, HU'.out]⟩)
          clear hr4 hk4
          go_wp2_with fail
          go_roundw
          case rel => exact ⟨c1, sw ys k c1, by first | rfl | go_num, Nat.le_of_lt HCM.out, HI2⟩
          case measure => have := HKC.out; have := HCM.out; simp [intOf]; omega

theorem tAssert (s : ByteArray) (w : World) : (Instr.typeAssert (.iface 9 (.string s)) 20 9 false).run Tryz.prog w = .ok (.string s) w := by kernel_rfl
/-- What Push of the interface leaves. -/
def PostPush (w : World) (b n : Nat) (v : Value) (xs : List ByteArray) (s : ByteArray) (e : Ending) (w' : World) : Prop :=
  e = .returned (.tuple #[]) ∧ ∃ g cap, Bx w' b #[.slice (some ⟨g, 0, none⟩) (n + 1) cap] 131 ∧ Row w' (.slice (some ⟨g, 0, none⟩) (n + 1) cap) (n + 1) (xs ++ [s]) ∧ Kp (fun k => k = b ∨ v.ownBlock = some k) w w' ∧ (v.ownBlock = some g ∨ w.heap.size ≤ g)

theorem push_fin {w w2 : World} {b n g cap : Nat} {v : Value} {xs : List ByteArray} {s : ByteArray} {o : Obj} (hgrow : ((w.alloc o).drew).grownBy w2 v.ownBlock)
    (hown : w2.ownsRow 0 9 1 (.slice (some ⟨g, 0, none⟩) (n + 1) cap) (n + 1) (strs xs ++ [.string s])) (hat : v.ownBlock = some g ∨ g = w.heap.size + 1) (hx : Bx w b #[v] 131) (hnb : v.ownBlock ≠ some b) (h : Row w v n xs) :
    Bx w2 b #[v] 131 ∧ (Bx (w2.setCell ⟨b, 0, none⟩ (.slice (some ⟨g, 0, none⟩) (n + 1) cap)) b #[.slice (some ⟨g, 0, none⟩) (n + 1) cap] 131 ∧ Row (w2.setCell ⟨b, 0, none⟩ (.slice (some ⟨g, 0, none⟩) (n + 1) cap)) (.slice (some ⟨g, 0, none⟩) (n + 1) cap) (n + 1) (xs ++ [s]) ∧
      Kp (fun k => k = b ∨ v.ownBlock = some k) w (w2.setCell ⟨b, 0, none⟩ (.slice (some ⟨g, 0, none⟩) (n + 1) cap)) ∧ (v.ownBlock = some g ∨ w.heap.size ≤ g)) := by
  have hbl := hx.lt
  have h2 : Bx w2 b #[v] 131 := (hx.alloc o).kept (hgrow.block b (by simp [World.drew]; omega) (fun e => hnb e.symm))
  have hk : Kp (fun k => k = b ∨ v.ownBlock = some k) w w2 := (((Kp.refl _ w).alloc o).then (Kp.of_dn ⟨1, rfl⟩)).then (Kp.of_grown hgrow (fun r e _ => .inr e))
  have hrow : Row w2 (.slice (some ⟨g, 0, none⟩) (n + 1) cap) (n + 1) (xs ++ [s]) := by
    unfold Row strs
    rw [List.map_append]
    exact hown
  have hgb : g ≠ b := fun e => own_box hrow h2 (by decide) (by rw [e]; rfl)
  refine ⟨h2, h2.set 0 _, own_block hrow (fun k hk => ?_), hk.setCell _ _ (fun _ => .inl rfl), hat.imp id (fun e => by omega)⟩
  obtain rfl : g = k := by simpa [Value.ownBlock] using hk
  exact Below.heap_setCell _ _ _ _ hgb

set_option maxRecDepth 20000 in
set_option maxHeartbeats 4000000 in
theorem pushC (b n : Nat) (v : Value) (xs : List ByteArray) (s : ByteArray) (hm : n < 1073741824) (w : World) (hx : Bx w b #[v] 131) (h : Row w v n xs) :
    Calls Tryz.prog 263 #[.pointer (some ⟨b, 0, none⟩), .iface 9 (.string s)] w (PostPush w b n v xs s) := by
  have hnb : v.ownBlock ≠ some b := own_box h hx (by decide)
  obtain ⟨i0, hi, hz0, hz1, hz2⟩ := info_parts Make.infoStr
  have d0 := hx.cell 0
  have HX := Lib.hid hx
  have hbl := hx.lt
  clear hx
  have tA := tAssert s
  go_enter Tryz.func263, Tryz.ntmps263
  go_wp2_with fail
  go_region_law (refine step_append_lies _ (by rfl) _ _ 131 (by rfl) 0 9 i0 (.string ⟨#[]⟩) 1 16 Tryz.underlying131 hi hz0 hz1 hz2 rfl (by decide) v n (strs xs) (by simp [Act.eval, Act.put]) ((h.alloc _).drew) ⟨w.heap.size, 0, none⟩ 1 1 [.string s] (by simp [Act.eval, Act.put]) rfl (World.news_of_block (cs := #[.string s]) (t := 9) (fr := (0, 0)) (heap_alloc_new w _)) (by simp [Value.oneCell']) (by omega) (by unfold maxLen; omega) (by omega) (by simp) (w.heap.size + 1) (by simp) ?_; intro g cap w2 hown hgrow hat hgl; have HF := push_fin hgrow hown hat HX.out hnb h; have d2 := HF.1.cell 0; have f2 := HF.1.frozen 0; have HFH := Lib.hid HF; clear HF hgrow hown hat hgl)
  all_goals
    go_end0
    exact ⟨rfl, _, _, HFH.out.2⟩
end Go.Proofs.YtmmmghpimdfleaaGreatDoor.Hp

set_option linter.unusedVariables false
namespace Go.Proofs.YtmmmghpimdfleaaGreatDoor.Hp
open Go.RowKit Mem Tr
open Go.Proofs.YtmmmghpimdfleaaGreatDoor.Own
open Go.Proofs.YtmmmghpimdfleaaGreatDoor.Tab (own_box own_kp own_block)

theorem row_pop {w : World} {g n cap : Nat} {ys : List ByteArray} {x : ByteArray} (h : Row w (.slice (some ⟨g, 0, none⟩) (n + 1) cap) (n + 1) (ys ++ [x])) : Row w (.slice (some ⟨g, 0, none⟩) n cap) n ys := by
  have hl := h.len
  rcases h.2 with ⟨h', _⟩ | ⟨g', cap', cur, h', hb, hg, hnc, hcm, hcs, htake⟩
  · simp at h'
  · simp only [Value.slice.injEq, Option.some.injEq, Addr.mk.injEq, and_true, true_and] at h'
    obtain ⟨rfl, rfl⟩ := h'
    have hy : ys.length = n := by simpa using hl
    refine ⟨by simp [strs, hy], .inr ⟨g, cap, cur, rfl, hb, hg, by omega, hcm, hcs, ?_⟩⟩
    have h1 : cur.toList.take (n * 1) = ((cur.toList.take ((n + 1) * 1)).take (n * 1)) := by rw [List.take_take, Nat.min_eq_left (by omega)]
    rw [h1, htake]
    unfold strs
    rw [List.map_append, List.take_append_of_le_length (by simp; omega), List.take_of_length_le (by simp; omega)]

/-- What Pop of the interface leaves. -/
def PostPopM (w : World) (b g n cap : Nat) (ys : List ByteArray) (x : ByteArray) (e : Ending) (w' : World) : Prop :=
  e = .returned (.iface 9 (.string x)) ∧ Bx w' b #[.slice (some ⟨g, 0, none⟩) n cap] 131 ∧ Row w' (.slice (some ⟨g, 0, none⟩) n cap) n ys ∧ Kp (· = b) w w'

set_option maxRecDepth 20000 in
set_option maxHeartbeats 4000000 in
theorem popM (b g n cap : Nat) (ys : List ByteArray) (x : ByteArray) (hm : n < 1073741824) (w : World) (hx : Bx w b #[.slice (some ⟨g, 0, none⟩) (n + 1) cap] 131) (h : Row w (.slice (some ⟨g, 0, none⟩) (n + 1) cap) (n + 1) (ys ++ [x])) :
    Calls Tryz.prog 262 #[.pointer (some ⟨b, 0, none⟩)] w (PostPopM w b g n cap ys x) := by
  have d0 := hx.cell 0
  have f0 := hx.frozen 0
  have hy : ys.length = n := by have := h.len; simpa using this
  have c1 : w.cell? ⟨g, n, none⟩ = some (.string x) := (h.cellAt n (by omega)).trans (by rw [strs_get _ _ (by simp; omega)]; unfold at'; rw [← hy]; simp)
  have hcap : n + 1 ≤ cap := by
    rcases h.2 with ⟨h', _⟩ | ⟨g', cap', cur, h', hb, hg, hnc, hcm, hcs, htake⟩
    · simp at h'
    · simp only [Value.slice.injEq, Option.some.injEq, Addr.mk.injEq, and_true, true_and] at h'
      omega
  have hcap2 : (n : Int) ≤ (cap : Int) := by omega
  have hgb : g ≠ b := fun e => own_box h hx (by decide) (by rw [e]; rfl)
  have HX := Lib.hid hx
  have HR := Lib.hid (row_pop h)
  clear hx h hcap hy
  go_enter Tryz.func262, Tryz.ntmps262
  go_wp2_with fail
  go_ret
  exact ⟨rfl, HX.out.set 0 _, own_block HR.out (fun k hk => Below.heap_setCell _ _ _ _ (by obtain rfl : g = k := by simpa [Value.ownBlock] using hk
                                                                                           exact hgb)), (Kp.refl _ w).setCell _ _ (fun _ => rfl)⟩

/-- What heap.Push leaves. -/
def PostHPush (w : World) (b n : Nat) (v : Value) (xs : List ByteArray) (s : ByteArray) (e : Ending) (w' : World) : Prop :=
  e = .returned (.tuple #[]) ∧ ∃ g cap, Bx w' b #[.slice (some ⟨g, 0, none⟩) (n + 1) cap] 131 ∧ Row w' (.slice (some ⟨g, 0, none⟩) (n + 1) cap) (n + 1) (upL (xs ++ [s]) n) ∧ Kp (fun k => k = b ∨ v.ownBlock = some k) w w' ∧ (v.ownBlock = some g ∨ w.heap.size ≤ g)

set_option maxRecDepth 20000 in
set_option maxHeartbeats 4000000 in
theorem hpushC (b n : Nat) (v : Value) (xs : List ByteArray) (s : ByteArray) (hm : n < 1073741823) (w : World) (hx : Bx w b #[v] 131) (h : Row w v n xs) :
    Calls Tryz.prog 89 #[.iface 130 (.pointer (some ⟨b, 0, none⟩)), .iface 9 (.string s)] w (PostHPush w b n v xs s) := by
  have hnb : v.ownBlock ≠ some b := own_box h hx (by decide)
  have mp := meth_push b w
  go_enter Tryz.func89, Tryz.ntmps89
  go_wp2_with fail
  refine (pushC b n v xs s (by omega) w hx h).mono ?_
  rintro e w1 ⟨rfl, g, cap, hx1, hr1, hk1, hat⟩
  have ml := meth_len b _ _ _ w1 (hx1.cell 0)
  clear mp
  have hn1 : (0 : Int) ≤ (n : Int) := Int.natCast_nonneg _
  go_wp2_with fail
  refine (lenC (n + 1) _ _ w1 hr1).mono ?_
  rintro e w2 ⟨rfl, rfl⟩
  clear ml
  have hgb : ¬ g = b := fun e => own_box hr1 hx1 (by decide) (by rw [e]; rfl)
  go_wp2_with fail
  refine (upC b g (n + 1) cap (xs ++ [s]) n (by omega) (by omega) w2 hx1 hr1).mono ?_
  rintro e w3 ⟨rfl, hk3, hr3⟩
  go_wp2_with fail
  go_end0
  refine ⟨rfl, g, cap, hx1.kp hk3 (fun e => hgb e.symm), hr3, hk1.trans hk3 (fun _ _ h => h) (fun i hi e => .inr ?_), hat⟩
  rcases hat with h | h
  · rw [h, e]
  · exact absurd hi (by rw [e]; omega)

/-- What heap.Pop leaves. -/
def PostHPop (w : World) (b g n cap : Nat) (D : List ByteArray) (e : Ending) (w' : World) : Prop :=
  e = .returned (.iface 9 (.string (at' D n))) ∧ Bx w' b #[.slice (some ⟨g, 0, none⟩) n cap] 131 ∧ Row w' (.slice (some ⟨g, 0, none⟩) n cap) n (D.take n) ∧ Kp (fun k => k = b ∨ k = g) w w'

set_option maxRecDepth 20000 in
set_option maxHeartbeats 4000000 in
theorem hpopC (b g n cap : Nat) (xs : List ByteArray) (hm : n < 1073741823) (w : World) (hx : Bx w b #[.slice (some ⟨g, 0, none⟩) (n + 1) cap] 131) (h : Row w (.slice (some ⟨g, 0, none⟩) (n + 1) cap) (n + 1) xs) :
    Calls Tryz.prog 91 #[.iface 130 (.pointer (some ⟨b, 0, none⟩))] w (PostHPop w b g n cap (downL (sw xs 0 n) 0 n)) := by
  have hgb : ¬ b = g := fun e => own_box h hx (by decide) (by rw [e]; rfl)
  have ml := meth_len b _ _ _ w (hx.cell 0)
  have hn1 : (0 : Int) ≤ (n : Int) := Int.natCast_nonneg _
  go_enter Tryz.func91, Tryz.ntmps91
  go_wp2_with fail
  refine (lenC (n + 1) _ _ w h).mono ?_
  rintro e w2 ⟨rfl, rfl⟩
  clear ml
  have ms := meth_swap b _ _ _ w2 (hx.cell 0)
  go_wp2_with fail
  refine (swapC g (n + 1) cap xs 0 n (by omega) (by omega) w2 h).mono ?_
  rintro e w3 ⟨rfl, hk3, hr3⟩
  clear ms
  have hx3 := hx.kp hk3 hgb
  go_wp2_with fail
  refine (downC b g (n + 1) n cap (sw xs 0 n) 0 (by omega) (by omega) (by omega) w3 hx3 hr3).mono ?_
  rintro e w4 ⟨⟨u, rfl⟩, hk4, hr4⟩
  have hx4 := hx3.kp hk4 hgb
  have mp := meth_pop b w4
  obtain ⟨D, hD⟩ : ∃ D, downL (sw xs 0 n) 0 n = D := ⟨_, rfl⟩
  rw [hD] at hr4
  have HD := Lib.hid hD
  clear hD hr3 h hx hx3
  have hl := hr4.len
  have e4 : D = D.take n ++ [at' D n] := by
    unfold at'
    rw [List.getD_eq_getElem?_getD, List.getElem?_eq_getElem (by omega), Option.getD_some, List.take_append_getElem]
    exact (List.take_of_length_le (by omega)).symm
  have hr5 : Row w4 (.slice (some ⟨g, 0, none⟩) (n + 1) cap) (n + 1) (D.take n ++ [at' D n]) := by rw [← e4]; exact hr4
  clear e4
  go_wp2_with fail
  refine (popM b g n cap (D.take n) (at' D n) (by omega) w4 hx4 hr5).mono ?_
  rintro e w5 ⟨rfl, hx5, hr6, hk5⟩
  go_wp2_with fail
  go_ret
  show PostHPop w2 b g n cap (downL (sw xs 0 n) 0 n) _ w5
  rw [HD.out]
  refine ⟨rfl, hx5, hr6, ?_⟩
  have a3 : Kp (fun k => k = b ∨ k = g) w2 w3 := hk3.mono (fun _ _ e => .inr e)
  have a4 : Kp (fun k => k = b ∨ k = g) w3 w4 := hk4.mono (fun _ _ e => .inr e)
  have a5 : Kp (fun k => k = b ∨ k = g) w4 w5 := hk5.mono (fun _ _ e => .inl e)
  exact (a3.then a4).then a5
end Go.Proofs.YtmmmghpimdfleaaGreatDoor.Hp

set_option linter.unusedVariables false
namespace Go.Proofs.YtmmmghpimdfleaaGreatDoor.Hp
open Go.Proofs.YtmmmghpimdfleaaGreatDoor

theorem at_get (xs : List ByteArray) (i : Nat) (h : i < xs.length) : at' xs i = xs[i] := by
  unfold at'
  rw [List.getD_eq_getElem?_getD, List.getElem?_eq_getElem h]; rfl
theorem at_sw (xs : List ByteArray) (i j k : Nat) (hi : i < xs.length) (hj : j < xs.length) : at' (sw xs i j) k = if k = j then at' xs i else if k = i then at' xs j else at' xs k := by
  by_cases hk : k < xs.length
  · rw [at_get _ _ (by rw [sw_length]; exact hk)]
    unfold sw
    rw [List.getElem_set, List.getElem_set]
    by_cases e : j = k
    · rw [if_pos e, if_pos e.symm]
    · rw [if_neg e, if_neg (fun h : k = j => e h.symm)]
      by_cases e2 : i = k
      · rw [if_pos e2, if_pos e2.symm]
      · rw [if_neg e2, if_neg (fun h : k = i => e2 h.symm), at_get _ _ hk]
  · have h1 : at' (sw xs i j) k = ⟨#[]⟩ := by
      unfold at'
      rw [List.getD_eq_getElem?_getD, List.getElem?_eq_none (by rw [sw_length]; omega)]; rfl
    have h2 : at' xs k = ⟨#[]⟩ := by
      unfold at'
      rw [List.getD_eq_getElem?_getD, List.getElem?_eq_none (by omega)]; rfl
    rw [h1, if_neg (by omega), if_neg (by omega), h2]
theorem set_perm {α : Type} [DecidableEq α] (xs : List α) (i j : Nat) (hi : i < xs.length) (hj : j < xs.length) : ((xs.set i xs[j]).set j xs[i]).Perm xs := by
  rw [List.perm_iff_count]
  intro a
  rw [List.count_set (by simpa using hj), List.count_set hi, List.getElem_set]
  have hci : (if (xs[i] == a) = true then 1 else 0) ≤ List.count a xs := by
    split
    · next h => exact List.count_pos_iff.2 (by rw [← (beq_iff_eq.1 h)]; exact List.getElem_mem hi)
    · omega
  by_cases e : i = j
  · subst e
    rw [if_pos rfl]
    omega
  · rw [if_neg e]
    have hcj : (if (xs[j] == a) = true then 1 else 0) ≤ List.count a xs := by
      split
      · next h => exact List.count_pos_iff.2 (by rw [← (beq_iff_eq.1 h)]; exact List.getElem_mem hj)
      · omega
    omega
theorem sw_perm (xs : List ByteArray) (i j : Nat) (hi : i < xs.length) (hj : j < xs.length) : (sw xs i j).Perm xs := by
  unfold sw
  rw [at_get _ _ hi, at_get _ _ hj]
  exact set_perm xs i j hi hj

def le (a b : ByteArray) : Prop := Sp.lt b a = false
theorem le_trans {a b c : ByteArray} (h : le a b) (k : le b c) : le a c := by
  unfold le at *
  cases e : Sp.lt c a with
  | false => rfl
  | true =>
    cases e2 : Sp.lt b a with
    | true => rw [h] at e2; cases e2
    | false =>
      have := Sp.lt_le e e2
      rw [k] at this; cases this
theorem le_of_lt {a b : ByteArray} (h : Sp.lt a b = true) : le a b := Sp.lt_asymm h
theorem le_refl (a : ByteArray) : le a a := Sp.lt_irrefl a

/-- the first n elements are a heap -/
def HeapB (n : Nat) (xs : List ByteArray) : Prop := ∀ i, 0 < i → i < n → le (at' xs ((i - 1) / 2)) (at' xs i)

theorem upL_length : ∀ (j : Nat) (xs : List ByteArray), (upL xs j).length = xs.length := by
  intro j
  induction j using Nat.strongRecOn with
  | _ j ih =>
    intro xs
    rw [upL]
    split
    · rfl
    · split
      · rw [ih _ (by omega), sw_length]
      · rfl
theorem up_perm : ∀ (j : Nat) (xs : List ByteArray), j < xs.length → (upL xs j).Perm xs := by
  intro j
  induction j using Nat.strongRecOn with
  | _ j ih =>
    intro xs hj
    rw [upL]
    split
    · exact List.Perm.refl _
    · split
      · exact (ih _ (by omega) _ (by rw [sw_length]; omega)).trans (sw_perm xs _ _ (by omega) hj)
      · exact List.Perm.refl _
theorem up_heap : ∀ (j : Nat) (xs : List ByteArray), j < xs.length → (∀ i, 0 < i → i < xs.length → i ≠ j → le (at' xs ((i - 1) / 2)) (at' xs i)) →
    (∀ i, 0 < i → i < xs.length → (i - 1) / 2 = j → 0 < j → le (at' xs ((j - 1) / 2)) (at' xs i)) → HeapB xs.length (upL xs j) := by
  intro j
  induction j using Nat.strongRecOn with
  | _ j ih =>
    intro xs hj hA hB
    rw [upL]
    split
    · next h => subst h; exact fun i h1 h2 => hA i h1 h2 (by omega)
    · next h =>
      obtain ⟨p, hp⟩ : ∃ p, (j - 1) / 2 = p := ⟨_, rfl⟩
      rw [hp]
      have hpj : p < j := by omega
      split
      · next hlt =>
        have := ih p hpj (sw xs p j) (by rw [sw_length]; omega) (fun i h1 h2 h3 => ?_) (fun i h1 h2 h3 h4 => ?_)
        · rw [sw_length] at this; exact this
        · rw [sw_length] at h2
          rw [at_sw _ _ _ _ (by omega) hj, at_sw _ _ _ _ (by omega) hj]
          by_cases e : i = j
          · subst e
            rw [hp, if_neg (by omega), if_pos rfl, if_pos rfl]
            exact le_of_lt hlt
          · rw [if_neg e, if_neg h3]
            by_cases e2 : (i - 1) / 2 = j
            · rw [if_pos e2, ← hp]
              exact hB i h1 h2 e2 (by omega)
            · rw [if_neg e2]
              by_cases e3 : (i - 1) / 2 = p
              · rw [if_pos e3]
                have := hA i h1 h2 e
                rw [e3] at this
                exact le_trans (le_of_lt hlt) this
              · rw [if_neg e3]
                exact hA i h1 h2 e
        · rw [sw_length] at h2
          rw [at_sw _ _ _ _ (by omega) hj, at_sw _ _ _ _ (by omega) hj]
          rw [if_neg (show ¬ (p - 1) / 2 = j by omega), if_neg (show ¬ (p - 1) / 2 = p by omega)]
          have hpp := hA p h4 (by omega) (by omega)
          by_cases e : i = j
          · subst e
            rw [if_pos rfl]
            exact hpp
          · rw [if_neg e, if_neg (show ¬ i = p by omega)]
            have h5 := hA i h1 h2 e
            rw [h3] at h5
            exact le_trans hpp h5
      · next hlt =>
        have hlt' : le (at' xs p) (at' xs j) := by unfold le; cases h : Sp.lt (at' xs j) (at' xs p) with | false => rfl | true => exact absurd h hlt
        intro i h1 h2
        by_cases e : i = j
        · subst e; rw [hp]; exact hlt'
        · exact hA i h1 h2 e
/-- heap.Push's law -/
theorem push_heap (xs : List ByteArray) (x : ByteArray) (n : Nat) (hn : xs.length = n) (h : HeapB n xs) : HeapB (n + 1) (upL (xs ++ [x]) n) ∧ (upL (xs ++ [x]) n).Perm (x :: xs) ∧ (upL (xs ++ [x]) n).length = n + 1 := by
  have hl : (xs ++ [x]).length = n + 1 := by simp [hn]
  have hat : ∀ i, i < n → at' (xs ++ [x]) i = at' xs i := fun i hi => by
    rw [at_get _ _ (by omega), at_get _ _ (by omega), List.getElem_append_left]
  refine ⟨?_, (up_perm n _ (by omega)).trans (List.perm_append_comm), by rw [upL_length, hl]⟩
  have := up_heap n (xs ++ [x]) (by omega) (fun i h1 h2 h3 => ?_) (fun i h1 h2 h3 h4 => by omega)
  · rw [hl] at this; exact this
  · rw [hat _ (by omega), hat _ (by omega)]
    exact h i h1 (by omega)

theorem child_facts (xs : List ByteArray) (k m : Nat) (h : ¬ m ≤ 2 * k + 1) : child xs k m < m ∧ (child xs k m - 1) / 2 = k ∧ k < child xs k m ∧ ∀ i, i < m → 0 < i → (i - 1) / 2 = k → le (at' xs (child xs k m)) (at' xs i) := by
  unfold child
  split
  · next hc =>
    refine ⟨hc.1, by omega, by omega, fun i h1 h0 h2 => ?_⟩
    have : i = 2 * k + 1 ∨ i = 2 * k + 2 := by omega
    rcases this with e | e
    · rw [e]; exact le_of_lt hc.2
    · rw [e]; exact le_refl _
  · next hc =>
    refine ⟨by omega, by omega, by omega, fun i h1 h0 h2 => ?_⟩
    have : i = 2 * k + 1 ∨ i = 2 * k + 2 := by omega
    rcases this with e | e
    · rw [e]; exact le_refl _
    · rw [e]
      unfold le
      cases hl : Sp.lt (at' xs (2 * k + 2)) (at' xs (2 * k + 1)) with
      | false => rfl
      | true => exact absurd ⟨by omega, hl⟩ hc
theorem down_all : ∀ (d k : Nat) (xs : List ByteArray) (m : Nat), m - k ≤ d → m ≤ xs.length → (downL xs k m).Perm xs ∧ (downL xs k m).length = xs.length ∧ (∀ i, m ≤ i → at' (downL xs k m) i = at' xs i) ∧
    ((∀ i, 0 < i → i < m → (i - 1) / 2 ≠ k → le (at' xs ((i - 1) / 2)) (at' xs i)) → (∀ i, 0 < i → i < m → (i - 1) / 2 = k → 0 < k → le (at' xs ((k - 1) / 2)) (at' xs i)) → HeapB m (downL xs k m)) := by
  intro d
  induction d with
  | zero =>
    intro k xs m h1 h2
    rw [downL, dif_pos (by omega)]
    exact ⟨List.Perm.refl _, rfl, fun _ _ => rfl, fun hA hB i h3 h4 => hA i h3 h4 (by omega)⟩
  | succ d ih =>
    intro k xs m h1 h2
    rw [downL]
    split
    · next h => exact ⟨List.Perm.refl _, rfl, fun _ _ => rfl, fun hA hB i h3 h4 => hA i h3 h4 (by omega)⟩
    · next h =>
      obtain ⟨c1, c2, c3, c4⟩ := child_facts xs k m h
      obtain ⟨c, hc⟩ : ∃ c, child xs k m = c := ⟨_, rfl⟩
      rw [hc] at c1 c2 c3 c4 ⊢
      split
      · next hlt =>
        obtain ⟨a1, a2, a3, a4⟩ := ih c (sw xs k c) m (by omega) (by rw [sw_length]; exact h2)
        refine ⟨a1.trans (sw_perm xs _ _ (by omega) (by omega)), by rw [a2, sw_length], fun i hi => ?_, fun hA hB => a4 (fun i h3 h4 h5 => ?_) (fun i h3 h4 h5 h6 => ?_)⟩
        · rw [a3 i hi, at_sw _ _ _ _ (by omega) (by omega), if_neg (by omega), if_neg (by omega)]
        · rw [at_sw _ _ _ _ (by omega) (by omega), at_sw _ _ _ _ (by omega) (by omega)]
          rw [if_neg h5]
          by_cases e : i = c
          · subst e
            rw [if_pos c2, if_pos rfl]
            exact le_of_lt hlt
          · rw [if_neg e]
            by_cases e2 : i = k
            · subst e2
              rw [if_neg (show ¬ (i - 1) / 2 = i by omega), if_pos rfl]
              exact hB c (by omega) c1 c2 h3
            · rw [if_neg e2]
              by_cases e3 : (i - 1) / 2 = k
              · rw [if_pos e3]
                exact c4 i h4 h3 e3
              · rw [if_neg e3]
                exact hA i h3 h4 e3
        · rw [at_sw _ _ _ _ (by omega) (by omega), at_sw _ _ _ _ (by omega) (by omega), c2]
          rw [if_neg (show ¬ k = c by omega), if_pos rfl, if_neg (show ¬ i = c by omega), if_neg (show ¬ i = k by omega)]
          have := hA i h3 h4 (by omega)
          rw [h5] at this
          exact this
      · next hlt =>
        refine ⟨List.Perm.refl _, rfl, fun _ _ => rfl, fun hA hB i h3 h4 => ?_⟩
        by_cases e : (i - 1) / 2 = k
        · rw [e]
          have h5 : le (at' xs k) (at' xs c) := by unfold le; cases h : Sp.lt (at' xs c) (at' xs k) with | false => rfl | true => exact absurd h hlt
          exact le_trans h5 (c4 i h4 h3 e)
        · exact hA i h3 h4 e
theorem heap_least {n : Nat} {xs : List ByteArray} (h : HeapB n xs) : ∀ i, i < n → le (at' xs 0) (at' xs i) := by
  intro i
  induction i using Nat.strongRecOn with
  | _ i ih =>
    intro hi
    by_cases e : i = 0
    · subst e; exact le_refl _
    · exact le_trans (ih ((i - 1) / 2) (by omega) (by omega)) (h i (by omega) hi)
/-- heap.Pop's law -/
theorem pop_heap (xs : List ByteArray) (n : Nat) (hn : xs.length = n + 1) (h : HeapB (n + 1) xs) (D : List ByteArray) (hD : downL (sw xs 0 n) 0 n = D) :
    D.length = n + 1 ∧ at' D n = at' xs 0 ∧ HeapB n (D.take n) ∧ xs.Perm (at' xs 0 :: D.take n) ∧ ∀ y ∈ xs, le (at' xs 0) y := by
  obtain ⟨a1, a2, a3, a4⟩ := down_all n 0 (sw xs 0 n) n (by omega) (by rw [sw_length]; omega)
  rw [hD] at a1 a2 a3 a4
  rw [sw_length] at a2
  have e1 : at' D n = at' xs 0 := by rw [a3 n (Nat.le_refl _), at_sw _ _ _ _ (by omega) (by omega), if_pos rfl]
  have hat : ∀ i, i < n → at' (D.take n) i = at' D i := fun i hi => by
    rw [at_get _ _ (by rw [List.length_take]; omega), at_get _ _ (by omega), List.getElem_take]
  have hHD : HeapB n D := a4 (fun i h1 h2 h3 => by
    rw [at_sw _ _ _ _ (by omega) (by omega), at_sw _ _ _ _ (by omega) (by omega), if_neg (by omega), if_neg (by omega), if_neg (by omega), if_neg (by omega)]
    exact h i h1 (by omega)) (fun i h1 h2 h3 h4 => by omega)
  have hs : D = D.take n ++ [at' D n] := by
    rw [at_get _ _ (by omega), List.take_append_getElem]
    exact (List.take_of_length_le (by omega)).symm
  refine ⟨by omega, e1, fun i h1 h2 => by rw [hat _ (by omega), hat _ h2]; exact hHD i h1 h2, ?_, fun y hy => ?_⟩
  · refine ((sw_perm xs 0 n (by omega) (by omega)).symm.trans a1.symm).trans ?_
    rw [← e1]
    exact (List.Perm.of_eq hs).trans List.perm_append_comm
  · obtain ⟨i, hi, rfl⟩ := List.getElem_of_mem hy
    rw [← at_get _ _ hi]
    exact heap_least h i (by omega)
end Go.Proofs.YtmmmghpimdfleaaGreatDoor.Hp
