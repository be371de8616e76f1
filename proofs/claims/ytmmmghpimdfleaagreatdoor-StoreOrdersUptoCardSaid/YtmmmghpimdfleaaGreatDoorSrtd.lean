/-
  depotref17.Sorted: the texts of a list rising, each once.
-/
import Derived.Test.YtmmmghpimdfleaaGreatDoorClos
import Derived.Test.YtmmmghpimdfleaaGreatDoorLive
set_option linter.unusedVariables false
set_option linter.unusedSimpArgs false
namespace Go.Proofs.YtmmmghpimdfleaaGreatDoor.Srtd
open Go.RowKit Mem Tr St
open Go.Proofs.YtmmmghpimdfleaaGreatDoor.Own
open Go.Proofs.YtmmmghpimdfleaaGreatDoor.Srt (Ris)

def beh (out : List ByteArray) (p : ByteArray) : Bool := match out.getLast? with
  | none => true
  | some l => Sp.lt l p
theorem beh_iff {out : List ByteArray} (h : Ris out) {p : ByteArray} : beh out p = true ↔ ∀ o ∈ out, Sp.lt o p = true := by
  rcases List.eq_nil_or_concat out with rfl | ⟨o, l, rfl⟩
  · simp [beh]
  · unfold beh
    rw [List.concat_eq_append, List.getLast?_append, List.getLast?_singleton]
    show Sp.lt l p = true ↔ _
    rw [List.concat_eq_append] at h
    obtain ⟨_, _, h3⟩ := List.pairwise_append.1 h
    constructor
    · intro hl x hx
      rcases List.mem_append.1 hx with hx | hx
      · exact Sp.lt_trans (h3 x hx l (by simp)) hl
      · rw [List.mem_singleton.1 hx]; exact hl
    · intro hx; exact hx l (by simp)
structure Inv (list out : List ByteArray) : Prop where
  ris : Ris out
  sub : ∀ p ∈ out, p ∈ list
  all : ∀ p ∈ list, p ∈ out ∨ ∀ o ∈ out, Sp.lt o p = true
theorem Inv.nil (list : List ByteArray) : Inv list [] := ⟨List.Pairwise.nil, fun p h => (by cases h), fun p _ => .inr fun o h => (by cases h)⟩
def Mi (list out : List ByteArray) (i : Nat) (least : ByteArray) (found : Bool) : Prop :=
  (found = false → ∀ p ∈ list.take i, beh out p = false) ∧ (found = true → least ∈ list ∧ beh out least = true ∧ ∀ p ∈ list.take i, beh out p = true → Sp.lt p least = false)
theorem Mi.start (list out : List ByteArray) (l : ByteArray) : Mi list out 0 l false := ⟨fun _ p h => (by simp at h), fun h => (by cases h)⟩
theorem mem_take_succ {list : List ByteArray} {i : Nat} (hi : i < list.length) {p : ByteArray} : p ∈ list.take (i + 1) ↔ p ∈ list.take i ∨ p = list[i] := by
  rw [List.take_succ_eq_append_getElem hi, List.mem_append, List.mem_singleton]
theorem Mi.skip {list out : List ByteArray} {i : Nat} {least : ByteArray} {found : Bool} (h : Mi list out i least found) (hi : i < list.length) (hb : beh out list[i] = false ∨ (found = true ∧ Sp.lt list[i] least = false)) : Mi list out (i + 1) least found := by
  refine ⟨fun hf p hp => ?_, fun hf => ?_⟩
  · rcases (mem_take_succ hi).1 hp with hp | rfl
    · exact h.1 hf p hp
    · rcases hb with hb | ⟨hb, _⟩
      · exact hb
      · rw [hf] at hb; cases hb
  · obtain ⟨h1, h2, h3⟩ := h.2 hf
    refine ⟨h1, h2, fun p hp hbp => ?_⟩
    rcases (mem_take_succ hi).1 hp with hp | rfl
    · exact h3 p hp hbp
    · rcases hb with hb | ⟨_, hb⟩
      · rw [hb] at hbp; cases hbp
      · exact hb
theorem Mi.take {list out : List ByteArray} {i : Nat} {least : ByteArray} {found : Bool} (h : Mi list out i least found) (hi : i < list.length) (hb : beh out list[i] = true) (hl : found = false ∨ Sp.lt list[i] least = true) : Mi list out (i + 1) list[i] true := by
  refine ⟨fun hf => (by cases hf), fun _ => ⟨List.getElem_mem _, hb, fun p hp hbp => ?_⟩⟩
  rcases (mem_take_succ hi).1 hp with hp | rfl
  · cases found with
    | false =>
      have := h.1 rfl p hp
      rw [this] at hbp; cases hbp
    | true =>
      obtain ⟨h1, h2, h3⟩ := h.2 rfl
      have h4 := h3 p hp hbp
      have hl : Sp.lt list[i] least = true := hl.resolve_left (by simp)
      cases hh : Sp.lt p list[i] with
      | false => rfl
      | true => rw [Sp.lt_trans hh hl] at h4; cases h4
  · exact Sp.lt_irrefl _
theorem Inv.fin {list out : List ByteArray} (h : Inv list out) {least : ByteArray} (hm : Mi list out list.length least false) : ∀ p, p ∈ out ↔ p ∈ list := by
  intro p
  refine ⟨h.sub p, fun hp => ?_⟩
  rcases h.all p hp with h1 | h1
  · exact h1
  · have := hm.1 rfl p (by rw [List.take_length]; exact hp)
    rw [(beh_iff h.ris).2 h1] at this; cases this
theorem Inv.snoc {list out : List ByteArray} (h : Inv list out) {least : ByteArray} (hm : Mi list out list.length least true) : Inv list (out ++ [least]) := by
  obtain ⟨h1, h2, h3⟩ := hm.2 rfl
  have hb := (beh_iff h.ris).1 h2
  refine ⟨List.pairwise_append.2 ⟨h.ris, List.pairwise_singleton _ _, fun a ha b hb' => by rw [List.mem_singleton.1 hb']; exact hb a ha⟩, fun p hp => ?_, fun p hp => ?_⟩
  · rcases List.mem_append.1 hp with hp | hp
    · exact h.sub p hp
    · rw [List.mem_singleton.1 hp]; exact h1
  · rcases h.all p hp with h4 | h4
    · exact .inl (List.mem_append_left _ h4)
    · have h5 := h3 p (by rw [List.take_length]; exact hp) ((beh_iff h.ris).2 h4)
      cases hl : Sp.lt least p with
      | false =>
        refine .inl ?_
        rw [Sp.lt_tri h5 hl]; simp
      | true =>
        refine .inr fun o ho => ?_
        rcases List.mem_append.1 ho with ho | ho
        · exact h4 o ho
        · rw [List.mem_singleton.1 ho]; exact hl
theorem gt_lt (last p : ByteArray) : (!Op.bytesLess p.toList last.toList && !p.toList == last.toList) = Sp.lt last p := by
  cases h : Sp.lt last p with
  | true =>
    have h1 : Op.bytesLess p.toList last.toList = false := Sp.lt_asymm h
    have h2 : (p.toList == last.toList) = false := by rw [Eq.bytes_beq]; exact decide_eq_false (fun e => Sp.lt_ne h e.symm)
    rw [h1, h2]; rfl
  | false =>
    cases h1 : Sp.lt p last with
    | true =>
      have h1 : Op.bytesLess p.toList last.toList = true := h1
      rw [h1]; rfl
    | false =>
      obtain rfl := Sp.lt_tri h h1
      simp
def lenOf : Value → Nat
  | .slice _ n _ => n
  | _ => 0

set_option maxHeartbeats 4000000 in
set_option maxRecDepth 20000 in
theorem sortedC (rv : Value) (list : List ByteArray) (w : World) (hr : Strs (fun b => b < w.heap.size) w rv list) (hl : list.length ≤ 1048576) :
    Calls Tryz.prog 52 #[rv] w fun e w' => ∃ out, Swp.PostTexts w out e w' ∧ Ris out ∧ ∀ p, p ∈ out ↔ p ∈ list := by
  have HR := Lib.hid hr
  obtain ⟨m, hm⟩ : ∃ m, list.length = m := ⟨_, rfl⟩
  have HM := Lib.hid hm
  obtain ⟨ao, cap, rfl, _, _, _⟩ := hr
  rw [hm] at HR hl
  rw [hm]
  clear hm
  go_enter Tryz.func52, Tryz.ntmps52
  go_wp2_with fail
  go_loopw [3, 4, 5, 6, 7] (fun x3 _ _ _ _ wr => ∃ ao3 n c, x3 = .slice ao3 n c ∧ n ≤ m ∧ Hid (∃ out, n = out.length ∧ wr.ownsRow w.heap.size 9 1 (.slice ao3 n c) n (out.map .string) ∧ Inv list out) ∧ Below w.heap.size w wr) (fun x3 _ _ _ _ _ => m + 1 - lenOf x3)
  case atStart => exact ⟨none, 0, 0, rfl, Nat.zero_le _, Lib.hid ⟨[], rfl, World.ownsRow_nil _ _ _ _, Inv.nil list⟩, Below.refl _ _⟩
  case round =>
    obtain ⟨ao3, n, c, rfl, hnm, HI, br⟩ := hrel
    obtain ⟨out, hon, hown, hinv⟩ := HI.out
    have HON := Lib.hid hon
    have HOWN := Lib.hid hown
    have HINV := Lib.hid hinv
    clear HI hon hown hinv
    generalize wr = w1 at *
    go_wp2_with fail
    go_loopw [4, 5, 6, 7] (fun x4 x5 i _ wr => ∃ k : Nat, ∃ least found, k ≤ m ∧ i = .int .i64 k ∧ x4 = .string least ∧ x5 = .bool found ∧ Hid (Mi list out k least found) ∧ Dn w1 wr) (fun _ _ i _ _ => m - (intOf i).toNat)
    case atStart => exact ⟨0, _, false, Nat.zero_le _, rfl, rfl, rfl, Lib.hid (Mi.start _ _ _), Dn.refl _⟩
    case round =>
      obtain ⟨k, least, found, hk, rfl, rfl, rfl, HMI, dn⟩ := hrel
      have B1 := br.trans ((dn.below : Below w1.heap.size w1 wr).mono br.size)
      by_cases hlt : k < m
      · obtain ⟨rb, ro, rcap, hrv, hcells⟩ := strs_at (HR.out.below B1) (by rw [HM.out]; omega)
        injection hrv with hrv1 hrv2 hrv3
        subst hrv1
        clear hrv2 hrv3
        have hkl : k < list.length := by rw [HM.out]; exact hlt
        have gk := hcells k hkl
        obtain ⟨p, hp⟩ : ∃ p, list[k] = p := ⟨_, rfl⟩
        rw [hp] at gk
        have HP := Lib.hid hp
        have e0 : (0 : Int) ≤ (k : Int) := Int.natCast_nonneg _
        have e1 : (k : Int) < (m : Int) := by omega
        clear hcells hp
        cases n with
        | zero =>
          have HB := Lib.hid (show beh out p = true by rw [List.eq_nil_of_length_eq_zero HON.out.symm]; rfl)
          cases found with
          | false =>
            have HNEW := Lib.hid (show Mi list out (k + 1) p true from by
              have h := HMI.out.take hkl (by rw [HP.out]; exact HB.out) (by rw [HP.out]; exact .inl rfl)
              rw [HP.out] at h; exact h)
            clear HMI
            go_wp2_with fail
            go_quiet (fail)
            go_wp2_with fail
            go_roundw
            case rel => exact ⟨k + 1, _, _, by omega, by go_num, rfl, rfl, HNEW, dn.trans (Dn.drewN _ _)⟩
            case measure => simp [intOf]; omega
          | true =>
            cases hl2 : Sp.lt p least with
            | true =>
              have hl3 : Op.bytesLess p.toList least.toList = true := hl2
              have HL2 := Lib.hid hl2
              clear hl2
              have HNEW := Lib.hid (show Mi list out (k + 1) p true from by
                have h := HMI.out.take hkl (by rw [HP.out]; exact HB.out) (by rw [HP.out]; exact .inr HL2.out)
                rw [HP.out] at h; exact h)
              clear HMI
              go_wp2_with fail
              go_quiet (fail)
              go_wp2_with fail
              go_roundw
              case rel => exact ⟨k + 1, _, _, by omega, by go_num, rfl, rfl, HNEW, dn.trans (Dn.drewN _ _)⟩
              case measure => simp [intOf]; omega
            | false =>
              have hl3 : Op.bytesLess p.toList least.toList = false := hl2
              have HL2 := Lib.hid hl2
              clear hl2
              have HNEW := Lib.hid (show Mi list out (k + 1) least true from HMI.out.skip hkl (by rw [HP.out]; exact .inr ⟨rfl, HL2.out⟩))
              clear HMI
              go_wp2_with fail
              go_quiet (fail)
              go_wp2_with fail
              go_roundw
              case rel => exact ⟨k + 1, _, _, by omega, by go_num, rfl, rfl, HNEW, dn.trans (Dn.drewN _ _)⟩
              case measure => simp [intOf]; omega
        | succ n =>
          have hne : out ≠ [] := fun e => by have := HON.out; rw [e] at this; cases this
          obtain ⟨ini, last, rfl⟩ : ∃ ini last, out = ini ++ [last] := ⟨_, _, (List.dropLast_concat_getLast hne).symm⟩
          have hli : ini.length = n := by have := HON.out; simp at this; omega
          obtain ⟨g, c', hv⟩ := ownsRow_succ HOWN.out
          cases hv
          have hcell : wr.cell? ⟨g, n, none⟩ = some (.string last) := by
            rw [dn.cell]
            exact (own_pop HOWN.out).2.2
          have hbh : beh (ini ++ [last]) p = Sp.lt last p := by unfold beh; rw [List.getLast?_append, List.getLast?_singleton]; rfl
          have n0 : (0 : Int) ≤ (n : Int) := Int.natCast_nonneg _
          have hw : IntKind.i64.wrap (n : Int) = (n : Int) := by rw [IntKind.wrap_i64]; omega
          have hz : ((n : Int) + 1 == 0) = false := by simp; omega
          clear hne hli
          cases hB : Sp.lt last p with
          | false =>
            rw [hB] at hbh
            have hB2 := gt_lt last p
            rw [hB] at hB2
            have HB := Lib.hid hbh
            clear hB hbh
            have HNEW := Lib.hid (show Mi list (ini ++ [last]) (k + 1) least found from HMI.out.skip hkl (by rw [HP.out]; exact .inl HB.out))
            clear HMI
            go_wp2_with fail
            go_quiet (fail)
            go_wp2_with fail
            go_roundw
            case rel => exact ⟨k + 1, _, _, by omega, by go_num, rfl, rfl, HNEW, dn.trans (Dn.drewN _ _)⟩
            case measure => simp [intOf]; omega
          | true =>
            rw [hB] at hbh
            have hB2 := gt_lt last p
            rw [hB] at hB2
            have HB := Lib.hid hbh
            clear hB hbh
            cases found with
            | false =>
              have HNEW := Lib.hid (show Mi list (ini ++ [last]) (k + 1) p true from by
                have h := HMI.out.take hkl (by rw [HP.out]; exact HB.out) (by rw [HP.out]; exact .inl rfl)
                rw [HP.out] at h; exact h)
              clear HMI
              go_wp2_with fail
              go_quiet (fail)
              go_wp2_with fail
              go_roundw
              case rel => exact ⟨k + 1, _, _, by omega, by go_num, rfl, rfl, HNEW, dn.trans (Dn.drewN _ _)⟩
              case measure => simp [intOf]; omega
            | true =>
              cases hl2 : Sp.lt p least with
              | true =>
                have hl3 : Op.bytesLess p.toList least.toList = true := hl2
                have HL2 := Lib.hid hl2
                clear hl2
                have HNEW := Lib.hid (show Mi list (ini ++ [last]) (k + 1) p true from by
                  have h := HMI.out.take hkl (by rw [HP.out]; exact HB.out) (by rw [HP.out]; exact .inr HL2.out)
                  rw [HP.out] at h; exact h)
                clear HMI
                go_wp2_with fail
                go_quiet (fail)
                go_wp2_with fail
                go_roundw
                case rel => exact ⟨k + 1, _, _, by omega, by go_num, rfl, rfl, HNEW, dn.trans (Dn.drewN _ _)⟩
                case measure => simp [intOf]; omega
              | false =>
                have hl3 : Op.bytesLess p.toList least.toList = false := hl2
                have HL2 := Lib.hid hl2
                clear hl2
                have HNEW := Lib.hid (show Mi list (ini ++ [last]) (k + 1) least true from HMI.out.skip hkl (by rw [HP.out]; exact .inr ⟨rfl, HL2.out⟩))
                clear HMI
                go_wp2_with fail
                go_quiet (fail)
                go_wp2_with fail
                go_roundw
                case rel => exact ⟨k + 1, _, _, by omega, by go_num, rfl, rfl, HNEW, dn.trans (Dn.drewN _ _)⟩
                case measure => simp [intOf]; omega
      · have hkm : m = k := by omega
        subst hkm
        have HMI' := Lib.hid (show Mi list out list.length least found by rw [HM.out]; exact HMI.out)
        clear HMI
        cases found with
        | false =>
          have HF := Lib.hid (HINV.out.fin HMI'.out)
          go_wp2_with fail
          go_ret
          exact ⟨out, ⟨_, rfl, by have h := Tab.own_kp HOWN.out (Kp.of_dn (M := fun _ => False) dn) (fun _ _ h => h); have e := HON.out; subst e; exact h, B1⟩, HINV.out.ris, HF.out⟩
        | true =>
          have HI2 := Lib.hid (HINV.out.snoc HMI'.out)
          have hle : n + 1 ≤ m := by
            have h1 := nodup_sub (Srt.ris_nodup HI2.out.ris) HI2.out.sub
            rw [List.length_append, List.length_singleton, HM.out, ← HON.out] at h1
            exact h1
          obtain ⟨i0, hi, hz0, hz1, hz2⟩ := info_parts Make.infoStr
          have hsz := B1.size
          have hown2 : wr.ownsRow w.heap.size 9 1 (.slice ao3 n c) n (out.map .string) := Tab.own_kp HOWN.out (Kp.of_dn (M := fun _ => False) dn) (fun _ _ h => h)
          have HO2 := Lib.hid hown2
          go_wp2_with (at_builtin; go_loud (refine wpList_append_own _ rfl _ _ 27 rfl w.heap.size 9 i0 (.string ⟨#[]⟩) 1 16 Tryz.underlying27 hi hz0 hz1 hz2 rfl (by decide) _ _ _ rfl (hown2.alloc _) ⟨wr.heap.size, 0, none⟩ 1 1 [.string least] rfl rfl (cell_one_new _ _ _) (by simp [Value.oneCell']) (by unfold maxLen; omega) (by omega) (by simp; omega) ?_; intro v' w8 hown8 hgrow hnil; obtain ⟨g', cap', rfl⟩ := ownsRow_succ hown8; have HN8 := Lib.hid hown8; have HG8 := Lib.hid hgrow; clear hown8 hgrow hnil))
          have hba : Below wr.heap.size wr (wr.alloc (.cells #[.string least] 9)) := (Below.refl _ wr).alloc (Nat.le_refl _) _
          have hB8 : Below w.heap.size w w8 := (B1.trans (hba.mono B1.size)).grown HG8.out (by have := hba.size; omega) (fun k e => (HO2.out.lt k e).1)
          have HF := Lib.hid (show ∃ out', n + 1 = out'.length ∧ w8.ownsRow w.heap.size 9 1 (.slice (some ⟨g', 0, none⟩) (n + 1) cap') (n + 1) (out'.map .string) ∧ Inv list out' from
            ⟨out ++ [least], by rw [List.length_append, ← HON.out]; rfl, by rw [List.map_append]; exact HN8.out, HI2.out⟩)
          clear hown2
          go_roundw
          case rel => exact ⟨_, _, _, rfl, hle, HF, hB8⟩
          case measure => simp [lenOf]; omega
end Go.Proofs.YtmmmghpimdfleaaGreatDoor.Srtd
