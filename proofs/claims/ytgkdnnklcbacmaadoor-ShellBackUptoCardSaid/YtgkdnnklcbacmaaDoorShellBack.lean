/-
  Texts are got back from the line of their words, where what comes in is of bulk at most 1048576. The condition: the argument's bulk (letters and values) is at most 1048576; the two listed variables of unicode/utf8 start as the program's text lays them.
-/
import Derived.Test.YtgkdnnklcbacmaaDoorCards
import Derived.Test.YtgkdnnklcbacmaaDoorTie
import Derived.Test.YtgkdnnklcbacmaaDoorEsc
import Derived.Test.YtgkdnnklcbacmaaDoorWords
import Derived.Test.YtgkdnnklcbacmaaDoorBackP
import Derived.Test.YtgkdnnklcbacmaaDoorTexts
import Derived.Test.YtgkdnnklcbacmaaDoorShellWords
import Derived.Test.YtgkdnnklcbacmaaDoorLaid
import Derived.WalkKit
import Derived.WalkLawsBesides
import Derived.WalkSpells
import Derived.ProofKit
import Derived.OpenShut
import Derived.SliceStrings
import Derived.Carry
import Derived.Deep.DeepHandedRow
import Derived.Lib.LaidTab
set_option linter.unusedVariables false
namespace Go.Proofs.YtgkdnnklcbacmaaDoor.shellBack
open Go.ChangeShapes Go.WideShapes Go.ChangeAt Go.RowKit
open Texts (Reads)
open BackP (jn bulk okB)

def bl (s : ByteArray) : List UInt8 := s.data.toList
def word (s : ByteArray) : ByteArray := ⟨(EscP.esc s.data.toList).toArray⟩
theorem word_ok (s : ByteArray) (j : Nat) (h : j < (word s).size) : 33 ≤ (word s)[j].toNat ∧ (word s)[j].toNat ≤ 126 := by
  have hm : (word s)[j] ∈ EscP.esc s.data.toList := by
    have h1 := Lb.getElem?_bytes (word s) j h
    have h2 : (word s).data.toList = EscP.esc s.data.toList := by simp [word]
    rw [h2] at h1
    exact List.mem_of_getElem? h1
  have := BackP.esc_ok _ _ hm
  simpa [BackP.okB] using this

set_option maxHeartbeats 2000000 in
theorem walk (w : World) (v : Value) (ls : List ByteArray) (hr : Reads w v ls) (hbulk : bulk (ls.map bl) ≤ 1048576) :
    Calls Tryd.prog 4 #[v] w fun e w' => e = .returned (.bool true) ∧ Below w.heap.size w w' := by
  obtain ⟨ao, cap, hv⟩ := hr.shape
  have hln : ls.length ≤ 1048576 := by
    have : (ls.map bl).length ≤ bulk (ls.map bl) := by
      generalize ls.map bl = l
      unfold bulk
      induction l with
      | nil => simp
      | cons y r ih => simp; omega
    simp at this; omega
  obtain ⟨n, hn⟩ : ∃ n, ls.length = n := ⟨_, rfl⟩
  rw [hn] at hln hv
  subst hv
  have Hn := Lib.hid hn
  have Hbulk := Lib.hid hbulk
  clear hn hbulk
  go_enter Tryd.func4, Tryd.ntmps4
  go_wp2_with fail
  refine (shellWords.escape_const _).mono ?_
  rintro e w1 ⟨rfl, b1⟩
  have hr1 := hr.below b1
  go_wp2
  go_loopw [3, 4, 5, 6, 7, 14] (fun ln _ _ _ _ i wr => ∃ (k : Nat) (line : ByteArray), k ≤ n ∧ i = .int .i64 k ∧ ln = .string line ∧ Hid (line.data.toList = jn ((ls.take k).map bl)) ∧ Reads wr (.slice ao n cap) ls ∧ Below w.heap.size w wr) (fun _ _ _ _ _ i _ => n - (intOf i).toNat)
  case atStart => exact ⟨0, ⟨#[]⟩, by omega, rfl, rfl, Lib.hid rfl, hr1, b1⟩
  case round =>
    obtain ⟨k, line, hk, rfl, rfl, hline, hrd, hb⟩ := hrel
    have hlsz : line.size ≤ 3145728 := by
      rw [Lib.size_eq, hline.out]
      have h1 := BackP.jn_length ((ls.take k).map bl)
      have h2 := Hbulk.out
      have h3 := BackP.bulk_take (ls.map bl) k
      rw [← List.map_take] at h3
      omega
    by_cases hlt : k < n
    · have e0 : (0 : Int) ≤ (k : Int) := Int.natCast_nonneg _
      have e1 : (k : Int) < (n : Int) := by omega
      have k1 : k < ls.length := by rw [Hn.out]; exact hlt
      obtain ⟨b, off, cap', hv, _, hc⟩ : ∃ b off cap', Value.slice ao n cap = .slice (some ⟨b, off, none⟩) ls.length cap' ∧ ls.length ≤ 9223372036854775807 ∧ ∀ j (h : j < ls.length), wr.cell? ⟨b, off + j, none⟩ = some (.string ls[j]) := by
        rcases hrd with ⟨_, _, h, _⟩ | h
        · rw [h] at k1; simp at k1
        · exact h
      have hcell := hc k k1
      have hao : ao = some ⟨b, off, none⟩ := by injection hv
      obtain ⟨s, hs⟩ : ∃ s, ls[k] = s := ⟨_, rfl⟩
      rw [hs] at hcell
      have hsl : s.size ≤ 1048576 := by
        have := BackP.bulk_mem (ls.map bl) (bl s) (List.mem_map.2 ⟨s, by rw [← hs]; exact List.getElem_mem k1, rfl⟩)
        have h2 := Hbulk.out
        unfold bl at this
        rw [← Lib.size_eq] at this
        unfold bl at h2
        omega
      have htk : ls.take (k + 1) = ls.take k ++ [s] := by rw [List.take_succ_eq_append_getElem k1, hs]
      have Htk := Lib.hid htk
      clear hc hv hs htk
      subst hao
      go_wp2_with fail
      refine (Esc.escape _ _ (by omega)).mono ?_
      rintro e w2 ⟨rfl, b2⟩
      rw [show ({ data := (EscP.esc s.data.toList).toArray } : ByteArray) = word s from rfl]
      have hok := word_ok s
      have hsz : (word s).size ≤ 4194304 := by
        have h1 : (word s).size = (EscP.esc s.data.toList).length := by rw [Lib.size_eq]; simp [word]
        have := BackP.esc_length s.data.toList
        rw [h1]
        rw [← Lib.size_eq] at this
        omega
      have hwl : (word s).data.toList = EscP.esc (bl s) := by simp [word, bl]
      have Hok := Lib.hid hok
      have Hwl := Lib.hid hwl
      generalize word s = wd at Hok Hwl hsz hok hwl ⊢
      clear hok hwl
      have hb2 := hb.trans (b2.mono hb.size)
      have hrd2 := hrd.below b2
      go_wp2
      go_loop [7] (fun i => ∃ j : Nat, j ≤ wd.size ∧ i = .int .i64 j) (fun i => wd.size - (intOf i).toNat)
      case atStart => exact ⟨0, by omega, rfl⟩
      case round =>
        obtain ⟨j, hj, rfl⟩ := hrel
        by_cases hjl : j < wd.size
        · have j0 : (0 : Int) ≤ (j : Int) := Int.natCast_nonneg _
          have j1 : (j : Int) < (wd.size : Int) := by omega
          have hjo := Hok.out j hjl
          have t1 : decide ((wd[j].toNat : Int) ≤ 32) = false := by simp; omega
          have t2 : decide (126 < (wd[j].toNat : Int)) = false := by simp; omega
          clear hjo
          go_wp2
          go_round
          case rel => exact ⟨j + 1, by omega, by go_num⟩
          case measure => simp [intOf]; omega
        · by_cases hk0 : k = 0
          · have t0 : decide (0 < k) = false := decide_eq_false (by omega)
            have hnew : (line ++ wd).data.toList = jn ((ls.take (k + 1)).map bl) := by
              rw [Htk.out, List.map_append, List.map_cons, List.map_nil, BackP.jn_snoc, if_pos (by rw [hk0]; rfl)]
              have := hline.out
              rw [hk0] at this
              have e : line.data.toList = [] := this
              simp [e, Hwl.out]
            have Hnew := Lib.hid hnew
            clear hnew hk0
            go_wp2
            go_roundw
            case rel => exact ⟨k + 1, line ++ wd, by omega, by go_num, rfl, Hnew, hrd2, hb2⟩
            case measure => simp [intOf]; omega
          · have t0 : decide (0 < k) = true := decide_eq_true (by omega)
            have hnew : ((line ++ ⟨#[32]⟩) ++ wd).data.toList = jn ((ls.take (k + 1)).map bl) := by
              rw [Htk.out, List.map_append, List.map_cons, List.map_nil, BackP.jn_snoc, if_neg (by
                intro e
                have h3 := congrArg List.length e
                rw [List.length_map, List.length_take, List.length_nil] at h3
                omega), ← hline.out]
              simp [Hwl.out]
            have Hnew := Lib.hid hnew
            clear hnew hk0
            go_wp2
            go_roundw
            case rel => exact ⟨k + 1, (line ++ ⟨#[32]⟩) ++ wd, by omega, by go_num, rfl, Hnew, hrd2, hb2⟩
            case measure => simp [intOf]; omega
    · obtain rfl : k = n := by omega
      have hfull : line.data.toList = jn (ls.map bl) := by
        rw [hline.out, List.take_of_length_le (by rw [Hn.out]; exact Nat.le_refl _)]
      have hsz : line.size ≤ 3145728 := by
        rw [Lib.size_eq, hfull]
        have := BackP.jn_length (ls.map bl)
        have h2 := Hbulk.out
        omega
      have Hfull := Lib.hid hfull
      clear hfull
      go_wp2_with fail
      refine (Words.call_words _ _ (by omega)).mono ?_
      rintro e w2 ⟨v2, rfl, r2, b2⟩
      have hrd2 := hrd.below b2
      have hb2 := hb.trans (b2.mono hb.size)
      by_cases hlong : 4096 < line.size
      · have hw := BackP.words_long line hlong
        rw [hw] at r2 ⊢
        obtain ⟨ao2, c2, rfl⟩ := (shellWords.reads_words r2).shape
        have t1 : (4096 : Int) < (line.size : Int) := by omega
        clear hw hlong r2
        simp only [List.map_nil, List.length_nil]
        go_wp2
        go_ret
        exact ⟨rfl, hb2⟩
      · have t1 : ¬ (4096 : Int) < (line.size : Int) := by omega
        by_cases hk0 : k = 0
        · have hls : ls = [] := List.eq_nil_of_length_eq_zero (by rw [Hn.out]; exact hk0)
          have hw := BackP.words_none line (by rw [Hfull.out, hls]; rfl)
          rw [hw] at r2 ⊢
          have t0 : ((k : Int) == 0) = true := by rw [beq_iff_eq]; omega
          clear hw hlong r2 hk0 hls
          go_wp2
          go_ret
          exact ⟨rfl, hb2⟩
        · have hne : ls.map bl ≠ [] := by
            intro e
            have := congrArg List.length e
            simp at this
            have h2 := Hn.out
            rw [this] at h2; simp at h2; omega
          have hw := BackP.words_jn (ls.map bl) hne line Hfull.out hlong
          rw [hw] at r2 ⊢
          have q2 := shellWords.reads_words r2
          have e3 : (ls.map bl).map SplitP.bytes = ls := by
            rw [List.map_map]
            conv => rhs; rw [← List.map_id ls]
            exact List.map_congr_left fun x _ => rfl
          simp only at q2
          rw [e3] at q2
          have t0 : ((k : Int) == 0) = false := by rw [beq_eq_false_iff_ne]; omega
          clear hw hlong r2 hk0 hne e3
          go_wp2_with fail
          refine (Texts.texts _ _ _ _ _ q2 hrd2).mono ?_
          rintro e w6 ⟨rfl, hsm⟩
          rw [show decide (ls = ls) = true from decide_eq_true rfl]
          go_wp2_with fail
          go_ret
          exact ⟨rfl, hsm.below hb2⟩

theorem own : ownKnob Tryd.prog.godebug = none := by kernel_rfl
theorem cellsStr : Tryd.prog.cellsOf 9 = 1 := by kernel_rfl

theorem bulk_strs {H : Type} (l : List ByteArray) (sp : List (DataW H)) (hk : Rows.uptoSmall H [.slice (strs l) sp] = true) : bulk (l.map bl) ≤ 1048576 := by
  have h := of_decide_eq_true hk
  simp only [Rows.uptoBulkAll, Rows.uptoBulk] at h
  have key : ∀ l : List ByteArray, bulk (l.map bl) = Rows.uptoBulkAll (strs (H := H) l) := by
    intro l
    induction l with
    | nil => rfl
    | cons x r ih =>
      unfold bulk at ih ⊢
      simp only [strs, List.map_cons, List.sum_cons, Rows.uptoBulkAll, Rows.uptoBulk] at ih ⊢
      rw [ih]
      rfl
  rw [key]
  omega

theorem contract (H : Type) (enc : TypeId × Value → H) (W : World) (base : Nat) (args : Array Value) (ds gs : List (DataW H)) (before : List MemPlace)
    (hval : ∀ (j : Nat) t v, Tryd.f4.params[j]? = some t → args[j]? = some v → Value.okWide Tryd.prog W .any base t v)
    (hW : DataW.Whole enc Tryd.prog Tryd.f4.params.toList Rows.shellBackSpec.vars false W args.toList ds gs before) (hk : Rows.uptoSmall H (ds ++ gs) = true) :
    Calls Tryd.prog 4 args W fun e W' => ∃ v, e = .returned v ∧ Rows.shellBackSpec.post enc Tryd.prog Tryd.f4 false true false false W args v W' := by
  have hW' := hW
  obtain ⟨p, q, hA0, hV, rfl, hfz, hnd⟩ := hW
  have hA : DataW.TrodAll enc Tryd.prog W 0 (fun _ => true) true Tryd.f4.params.toList args.toList ds p := hA0
  rw [Tryd.params4] at hA hval
  obtain ⟨v0, vs0, d0, ds0, p0, q0, hargs, rfl, rfl, h0, r0⟩ := trodAll_cons hA
  obtain ⟨rfl, rfl, rfl⟩ := trodAll_nil r0
  obtain rfl : args = #[v0] := by cases args; simp_all
  obtain ⟨rfl, rfl⟩ := trodVars_none hV
  clear hA0
  simp only [List.append_nil] at hW' hk
  have hopen : ∃ ls : List ByteArray, Reads W v0 ls ∧ bulk (ls.map bl) ≤ 1048576 := by
    obtain ⟨a0, len, cap, rfl⟩ := okWide_slice Tryd.underlying23 (hval 0 23 v0 rfl rfl)
    obtain ⟨fuel, hf⟩ := h0
    rcases open_strings Tryd.underlying23 Tryd.underlying9 cellsStr hf with ⟨hcs, hx⟩ | ⟨a, len', cap', ss, hcs, _, hl, hm, hz, hx, hcell, hws⟩
    · refine ⟨[], .inl ⟨none, 0, rfl, ?_⟩, by decide⟩
      simp [Value.cells] at hcs
      rw [hcs.1, hcs.2.1, hcs.2.2]
    · simp only [Prod.mk.injEq] at hx
      obtain ⟨rfl, _⟩ := hx
      simp [Value.cells] at hcs
      obtain ⟨rfl, rfl, rfl⟩ := hcs
      refine ⟨ss.take len, ?_, bulk_strs _ _ hk⟩
      have hln : (ss.take len).length = len := by rw [List.length_take, hz]; split <;> omega
      by_cases h0 : len = 0
      · exact .inl ⟨some a, cap, by rw [h0]; rfl, by rw [h0]⟩
      · obtain ⟨b, off, sp⟩ := a
        have hsp : sp = none := by
          have h1 := hcell 0 (by rw [hz]; split <;> omega)
          cases sp with
          | none => rfl
          | some x =>
            exfalso
            have e : (⟨b, off, some x⟩ : Addr).add 0 = ⟨b, off, some x⟩ := rfl
            rw [e] at h1
            unfold World.cell? at h1
            split at h1 <;> simp at h1
        subst hsp
        refine .inr ⟨b, off, cap, by rw [hln], by rw [hln]; unfold maxLen at hm; omega, fun j hj => ?_⟩
        have hj2 : j < ss.length := by rw [List.length_take] at hj; omega
        have h1 := hcell j hj2
        have h2 : (⟨b, off, none⟩ : Addr).add j = ⟨b, off + j, none⟩ := by unfold Addr.add; split <;> simp_all
        rw [h2] at h1
        rw [h1, List.getElem_take]
        simp [List.getD, hj2]
  obtain ⟨ls, hrd, hb⟩ := hopen
  refine (walk W v0 ls hrd hb).mono fun e W' ⟨he, bel⟩ => ?_
  subst he
  exact ⟨_, rfl, _, _, _, [], _, [], hW', trodAll_mk1 (shut_bool Tryd.underlying4 _), (trodAll_cons_mk (Below.trod (by kernel_rfl) (by kernel_rfl) (of_decide_eq_true (by kernel_rfl)) h0 bel (fun x hx => hW'.lt x hx)) trodAll_mk0), rfl, bel.frame _, fun h => by cases h⟩

theorem reads (os : Os) {H : Type} (enc : TypeId × Value → H) : ∃ places, DataW.whole enc Tryd.prog ((Laid.world os).forCall (fun _ _ => 0) ⟨#[], #[.slice none 0 0], []⟩).memory Tryd.f4.params.toList Rows.shellBackSpec.vars false #[Value.slice none 0 0].toList 8 = some ([.nil], [], places) :=
  ⟨[], by kernel_rfl⟩

set_option maxRecDepth 100000 in
theorem lifted (os : Os) (started : os.Started) (H : Type) (enc : TypeId × Value → H) (F : Stop.Interp) :
    ReturnsInHanded {} Tryd.checked os 4 .any ((Rows.OpenSpec.upto Rows.shellBackSpec).preRow enc Tryd.prog Tryd.f4 Rows.shellBackUptoRow.domain false Rows.shellBackUptoRow.laid) (((Rows.OpenSpec.upto Rows.shellBackSpec).at F).post enc Tryd.prog Tryd.f4 false true false false) := by
  obtain ⟨places, hx⟩ := reads os enc
  refine returnsInHanded_of_row (C := Tryd.checked) (s := Rows.OpenSpec.upto Rows.shellBackSpec) own started (by kernel_rfl) Tryd.func4
    (witness_row_at (enc := enc) (C := Tryd.checked) false (Laid.world os) #[.slice none 0 0] rfl (by kernel_rfl) (by kernel_rfl) (by kernel_rfl)
      (OpenSpec.preRow_of_cond 8 hx (by kernel_rfl) (fun k hk => by cases hk; kernel_rfl) (by kernel_rfl) (Laid.met os _))) ?_
  intro W base args ds gs before hval hW _ hcond _ _ _ _
  exact contract H enc W base args ds gs before hval hW (hcond _ rfl)

theorem said : Rows.ShellBackUptoSaid :=
  OpenClaim.holds_of_cond 4 Tryd.f4 rfl rfl rfl rfl rfl rfl rfl ⟨rfl, rfl, rfl, rfl, rfl⟩ rfl rfl rfl rfl rfl (by kernel_rfl) Tryd.func4 (by kernel_rfl)
    (of_decide_eq_true (by kernel_rfl)) (by unfold Func.isWrapper; first | (rw [if_pos (by decide +kernel)]; kernel_rfl) | (rw [if_neg (by decide +kernel)]; exact ⟨rfl, rfl⟩))
    (fun os started H enc _ F => by rw [OpenClaim.pre_eq_preRow]; exact lifted os started H enc F)

theorem plain (f : FuncId) (fn : Func) (hf : Tryd.pinned.checked.prog.funcNamed "depot/depotlaw25.ShellBack" = some f) (hfn : Tryd.pinned.checked.prog.funcs[f]? = some fn) :
    false = Tryd.pinned.checked.prog.looks [] ∧ ∀ (j : Nat) t, fn.params[j]? = some t → Tryd.pinned.checked.prog.wantsStandIn t = false := by
  obtain rfl : f = 4 := Option.some.inj ((show Tryd.prog.funcNamed "depot/depotlaw25.ShellBack" = some 4 by kernel_rfl).symm.trans hf) |>.symm
  obtain rfl : fn = Tryd.f4 := (Option.some.inj (Tryd.func4.symm.trans hfn)).symm
  refine ⟨by kernel_rfl, fun j t ht => ?_⟩
  rw [Tryd.params4] at ht
  obtain rfl : t = 23 := by simpa using Array.mem_of_getElem? ht
  exact (show Tryd.prog.wantsStandIn 23 = false by kernel_rfl)

/-- The statement. -/
theorem card : Rows.ShellBackUptoCardSaid :=
  Claim7.holds_tied_plain_at .later [] _ _ _ _ said (fun _ h => by cases h) (by kernel_rfl) (fun _ h => by cases h) shellBackUpto_row_tie rfl ⟨rfl, rfl⟩ (by kernel_rfl) rfl plain (by kernel_rfl)
#print axioms card
end Go.Proofs.YtgkdnnklcbacmaaDoor.shellBack
