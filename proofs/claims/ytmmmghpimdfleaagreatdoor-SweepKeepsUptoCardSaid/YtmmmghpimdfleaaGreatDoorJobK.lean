/-
  A Job as an argument of a law: what is nil has no room.
-/
import Derived.Test.YtmmmghpimdfleaaGreatDoorGrpZB
set_option linter.unusedVariables false
set_option linter.unusedSimpArgs false
set_option maxRecDepth 20000
namespace Go.Proofs.YtmmmghpimdfleaaGreatDoor.Op
open Go.ChangeShapes Go.WideShapes Go.ChangeAt Go.RowKit Mem Tr
open Go.Proofs.YtmmmghpimdfleaaGreatDoor.Swp (Uses)
section
variable {H : Type} {enc : TypeId × Value → H} {w : World} {spare : Nat → Bool} {held : Bool}
theorem uses_cap {fuel : Nat} {v : Value} {x : DataW H × List MemPlace} (h : DataW.trod enc Tryz.prog w 0 spare held fuel 72 [v] = some x) : ∀ n cap, v = .slice none n cap → n = 0 ∧ cap = 0 := by
  intro n cap e
  rcases DataW.trod_slice Tryz.underlying72 h with ⟨h1, _⟩ | ⟨a, len, cap', elems, rest, m, _, h1, _⟩
  · obtain rfl := one_of h1
    cases e; exact ⟨rfl, rfl⟩
  · obtain rfl := one_of h1
    cases e
structure JobK (w : World) (cs : List Value) (roots : List ByteArray) (us : List (ByteArray × Int)) (want : Int) (rv uv : Value) : Prop where
  job : JobAt w cs roots us want rv uv
  capR : ∀ n cap, rv = .slice none n cap → cap = 0
  capU : ∀ n cap, uv = .slice none n cap → n = 0 ∧ cap = 0
theorem arg_jobK {base : Nat} {v : Value} {d : DataW H} {ps : List MemPlace} (hv : Value.okWide Tryz.prog w .any base 74 v) (h : DataW.Trod enc Tryz.prog w 0 spare held 74 v d ps) :
    ∃ (roots : List ByteArray) (us : List (ByteArray × Int)) (want : Int) (rv uv : Value) (cs : List Value), v = .agg cs.toArray ∧ JobK w cs roots us want rv uv ∧ bulks roots + bulkU us + 4 ≤ Rows.uptoBulk d := by
  obtain ⟨⟨l⟩, rfl, _⟩ := okWide_struct Tryz.underlying74 hv
  obtain ⟨fuel, hf⟩ := h
  have hf : DataW.trod enc Tryz.prog w 0 spare held fuel 74 l = some _ := hf
  obtain ⟨xs, n, _, he, hl, hlen, hg⟩ := DataW.trod_struct Tryz.underlying74 hf
  rw [c_job] at hl
  match l, hl with
  | [a, b, c], _ =>
  match xs, hlen with
  | [y0, y1, y2], _ =>
    have h0 : DataW.trod enc Tryz.prog w 0 spare held n 27 (([a, b, c].drop 0).take (Tryz.prog.cellsOf 27)) = some y0 := hg 0 _ rfl
    have h1 : DataW.trod enc Tryz.prog w 0 spare held n 72 (([a, b, c].drop 1).take (Tryz.prog.cellsOf 72)) = some y1 := hg 1 _ rfl
    have h2 : DataW.trod enc Tryz.prog w 0 spare held n 3 (([a, b, c].drop 2).take (Tryz.prog.cellsOf 3)) = some y2 := hg 2 _ rfl
    rw [c_strs] at h0
    rw [c_uses] at h1
    rw [c_int] at h2
    have hcu := uses_cap h1
    obtain ⟨rv, roots, e0, hr, hbr, hcr⟩ := open_texts h0
    obtain ⟨uv, us, e1, hu, hcuu, hbu⟩ := open_uses h1
    obtain ⟨z, e2, rfl, hw⟩ := DataW.trod_int Tryz.underlying3 h2
    obtain rfl : a = rv := one_of e0
    obtain rfl : b = uv := one_of e1
    obtain rfl : c = .int .i64 z := one_of e2
    refine ⟨roots, us, z, a, b, [a, b, .int .i64 z], rfl, ⟨⟨rfl, hr, hu, hcuu, by have := bounds_i64 hw; omega⟩, hcr, hcu⟩, ?_⟩
    have hd : d = .agg [y0.1, y1.1, .lit (.int .i64 z)] := congrArg Prod.fst he
    rw [hd, bulk_agg3, bulk_int]
    omega
end
end Go.Proofs.YtmmmghpimdfleaaGreatDoor.Op

namespace Go.Proofs.YtmmmghpimdfleaaGreatDoor.Swp
open Go.ChangeShapes Go.WideShapes Go.ChangeAt Go.RowKit Mem Tr St
def flatU : List (ByteArray × Int) → List Value
  | [] => []
  | x :: l => .string x.1 :: .int .i64 x.2 :: flatU l
theorem flatU_length (l : List (ByteArray × Int)) : (flatU l).length = l.length * 2 := by
  induction l with
  | nil => rfl
  | cons x l ih => rw [flatU, List.length_cons, List.length_cons, List.length_cons, ih]; omega
theorem flatU_get (l : List (ByteArray × Int)) : ∀ j (h : j < l.length), (flatU l)[j * 2]? = some (.string l[j].1) ∧ (flatU l)[j * 2 + 1]? = some (.int .i64 l[j].2) := by
  induction l with
  | nil => intro j h; exact absurd h (by simp)
  | cons x l ih =>
    intro j h
    cases j with
    | zero => exact ⟨rfl, rfl⟩
    | succ j =>
      have := ih j (by simpa using h)
      rw [show (j + 1) * 2 = j * 2 + 2 by omega, flatU]
      simpa using this
theorem flatU_at {l : List (ByteArray × Int)} {i : Nat} {u : Value} (h : (flatU l)[i]? = some u) : ∃ j, ∃ hj : j < l.length, (i = j * 2 ∧ u = .string l[j].1) ∨ (i = j * 2 + 1 ∧ u = .int .i64 l[j].2) := by
  have hi : i < l.length * 2 := by rw [← flatU_length]; exact (List.getElem?_eq_some_iff.1 h).1
  refine ⟨i / 2, by omega, ?_⟩
  obtain ⟨h1, h2⟩ := flatU_get l (i / 2) (by omega)
  rcases Nat.mod_two_eq_zero_or_one i with e | e
  · left
    rw [show i / 2 * 2 = i by omega, h] at h1
    exact ⟨by omega, Option.some.inj h1⟩
  · right
    rw [show i / 2 * 2 + 1 = i by omega, h] at h2
    exact ⟨by omega, Option.some.inj h2⟩
theorem flatU_one (l : List (ByteArray × Int)) : ∀ u ∈ flatU l, u.oneCell' = true := by
  induction l with
  | nil => intro u h; cases h
  | cons x l ih =>
    intro u h
    rw [flatU] at h
    simp only [List.mem_cons] at h
    rcases h with rfl | rfl | h
    · rfl
    · rfl
    · exact ih u h
/-- 'append(own, given...)' -/
theorem app_texts {w : World} {B n : Nat} {v : Value} {xs : List Value} {S : Nat → Prop} {rv : Value} {l : List ByteArray} (hown : w.ownsRow B 9 1 v n xs) (hr : Strs S w rv l) (hcap : ∀ n cap, rv = .slice none n cap → cap = 0) (hn : n + l.length ≤ 4194304) (hB : B ≤ w.heap.size) :
    ∃ v' w', (Builtin.append_ #[27, 27] 27 #[v, rv]).run Tryz.prog w = .ok v' w' ∧ w'.ownsRow B 9 1 v' (n + l.length) (xs ++ l.map .string) ∧ w.grownBy w' v.ownBlock := by
  obtain ⟨i0, hi, hz0, hz1, hz2⟩ := info_parts Make.infoStr
  obtain ⟨ao, cap, rfl, hl, hm, hk⟩ := hr
  cases ao with
  | none =>
    obtain rfl := hcap _ _ rfl
    obtain rfl : l = [] := List.eq_nil_of_length_eq_zero (by omega)
    refine ⟨v, w, run_append_owned_none (P := Tryz.prog) w B _ _ 9 i0 1 Tryz.underlying27 hi v n xs hown, by simpa using hown, ⟨rfl, rfl, rfl, Nat.le_refl _, fun _ _ _ => rfl⟩⟩
  | some ad =>
    have hnews : ∀ j u, (l.map Value.string)[j]? = some u → w.cell? (ad.add j) = some u := by
      intro j u hj
      have hjl : j < l.length := by have := (List.getElem?_eq_some_iff.1 hj).1; simpa using this
      rcases hk with rfl | ⟨b, o, e1, e2, e3⟩
      · simp at hjl
      · cases e1
        rw [add_plain, e3 j hjl]
        rw [List.getElem?_map, List.getElem?_eq_getElem hjl] at hj
        exact hj
    obtain ⟨v', w', h1, h2, h3, _, _⟩ := run_append_own_at (P := Tryz.prog) w B 27 27 9 i0 (.string ⟨#[]⟩) 1 16 Tryz.underlying27 hi hz0 hz1 hz2 rfl (by decide) v n xs hown ad l.length cap (l.map .string) (by simp) hnews (by intro u hu; obtain ⟨x, _, rfl⟩ := List.mem_map.1 hu; rfl) (by unfold maxLen; omega) (by omega) hB
    exact ⟨v', w', h1, h2, h3⟩
theorem infoUse2 : (Tryz.prog.info? 81).map (fun i => (i.zero, i.size, i.bytes)) = some (some (.agg Z2), 2, 24) := by kernel_rfl
theorem app_uses {w : World} {B n : Nat} {v : Value} {xs : List Value} {S : Nat → Prop} {uv : Value} {l : List (ByteArray × Int)} (hown : w.ownsRow B 81 2 v n xs) (hr : Uses S w uv l) (hcap : ∀ n cap, uv = .slice none n cap → n = 0 ∧ cap = 0) (hn : n + l.length ≤ 4194304) (hB : B ≤ w.heap.size) :
    ∃ v' w', (Builtin.append_ #[72, 72] 72 #[v, uv]).run Tryz.prog w = .ok v' w' ∧ w'.ownsRow B 81 2 v' (n + l.length) (xs ++ flatU l) ∧ w.grownBy w' v.ownBlock := by
  obtain ⟨i0, hi, hz0, hz1, hz2⟩ := info_parts infoUse2
  obtain ⟨ao, cap, rfl, hl, hm, hk⟩ := hr
  cases ao with
  | none =>
    obtain ⟨h0, rfl⟩ := hcap _ _ rfl
    obtain rfl : l = [] := List.eq_nil_of_length_eq_zero h0
    refine ⟨v, w, run_append_owned_none (P := Tryz.prog) w B _ _ 81 i0 2 Tryz.underlying72 hi v n xs hown, by simpa [flatU] using hown, ⟨rfl, rfl, rfl, Nat.le_refl _, fun _ _ _ => rfl⟩⟩
  | some ad =>
    have hnews : ∀ j u, (flatU l)[j]? = some u → w.cell? (ad.add j) = some u := by
      intro i u hi
      obtain ⟨j, hj, h | h⟩ := flatU_at hi
      · obtain ⟨rfl, rfl⟩ := h
        rcases hk with rfl | ⟨b, o, e1, e2, e3⟩
        · simp at hj
        · cases e1
          rw [add_plain]
          exact (e3 j hj).1
      · obtain ⟨rfl, rfl⟩ := h
        rcases hk with rfl | ⟨b, o, e1, e2, e3⟩
        · simp at hj
        · cases e1
          rw [add_plain]
          exact (e3 j hj).2
    obtain ⟨v', w', h1, h2, h3, _, _⟩ := run_append_own_at (P := Tryz.prog) w B 72 72 81 i0 (.agg Z2) 2 24 Tryz.underlying72 hi hz0 hz1 hz2 rfl (by decide) v n xs hown ad l.length cap (flatU l) (flatU_length l) hnews (flatU_one l) (by unfold maxLen; omega) (by omega) hB
    exact ⟨v', w', h1, h2, h3⟩
end Go.Proofs.YtmmmghpimdfleaaGreatDoor.Swp
