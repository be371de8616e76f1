/-
  Every Escape and every Words, where what comes in is of bulk at most 1048576: shell.Escape and shell.Words answer what the document's functions answer. The condition: the arguments' bulk (letters and values) is at most 1048576; the two listed variables of unicode/utf8 start as the program's text lays them.
-/
import Derived.Test.YtgkdnnklcbacmaaDoorCards
import Derived.Test.YtgkdnnklcbacmaaDoorTie
import Derived.Test.YtgkdnnklcbacmaaDoorEsc
import Derived.Test.YtgkdnnklcbacmaaDoorWords
import Derived.Test.YtgkdnnklcbacmaaDoorRefEsc
import Derived.Test.YtgkdnnklcbacmaaDoorRefWords
import Derived.Test.YtgkdnnklcbacmaaDoorTexts
import Derived.Test.YtgkdnnklcbacmaaDoorLaid
import Derived.WalkKit
import Derived.WalkLawsBesides
import Derived.WalkSpells
import Derived.ProofKit
import Derived.OpenShut
import Derived.Deep.DeepHandedRow
import Derived.Lib.LaidTab
set_option linter.unusedVariables false
namespace Go.Proofs.YtgkdnnklcbacmaaDoor.shellWords
open Go.ChangeShapes Go.WideShapes Go.ChangeAt Go.RowKit
open Go.ChangeMaps (setBlock shut_map_nil open_string shut_string keptBut_setBlock frozen?_setBlock heap_setBlock_same)

theorem own : ownKnob Tryd.prog.godebug = none := by kernel_rfl

theorem esc_const : EscP.esc [97, 32, 98, 37] = [97, 37, 50, 48, 98, 37, 50, 53] := by decide

theorem escape_const (w : World) : Calls Tryd.prog 5 #[.string { data := #[97, 32, 98, 37] }] w fun e w' => e = .returned (.string { data := #[97, 37, 50, 48, 98, 37, 50, 53] }) ∧ Below w.heap.size w w' := by
  refine (Esc.escape _ _ (by decide)).mono ?_
  rintro e w' ⟨rfl, hb⟩
  exact ⟨by rw [show ({ data := #[97, 32, 98, 37] } : ByteArray).data.toList = [97, 32, 98, 37] from rfl, esc_const], hb⟩

theorem reads_words {w : World} {B : Nat} {v : Value} {ws : List (List UInt8)} (h : w.ownsRow B 9 1 v ws.length (ws.map WordsP.strV)) : Texts.Reads w v (ws.map SplitP.bytes) := by
  refine Texts.Reads.of_own (B := B) (e := 9) ?_
  rw [List.length_map, List.map_map]
  exact h

set_option maxHeartbeats 1000000 in
theorem walk (s line : ByteArray) (hs : s.size + line.size ≤ 1048576) (w : World) :
    Calls Tryd.prog 3 #[.string s, .string line] w fun e w' => e = .returned (.bool true) ∧ Below w.heap.size w w' := by
  go_enter Tryd.func3, Tryd.ntmps3
  go_wp2_with fail
  refine (escape_const _).mono ?_
  rintro e w1 ⟨rfl, b1⟩
  go_wp2_with fail
  refine (Words.call_words _ _ (by omega)).mono ?_
  rintro e w2 ⟨v1, rfl, r1, b2⟩
  go_wp2_with fail
  refine (RefWords.call_words _ _ (by omega)).mono ?_
  rintro e w3 ⟨v2, rfl, r2, b3⟩
  go_wp2_with fail
  refine (Esc.escape _ _ (by omega)).mono ?_
  rintro e w4 ⟨rfl, b4⟩
  go_wp2_with fail
  refine (RefEsc.escape _ _ (by omega)).mono ?_
  rintro e w5 ⟨rfl, b5⟩
  have q1 := ((reads_words r1).below b3).below (b4.trans (b5.mono b4.size))
  have q2 := (reads_words r2).below (b4.trans (b5.mono b4.size))
  have bb : Below w.heap.size w w5 := ((((b1.trans (b2.mono b1.size)).trans (b3.mono (Nat.le_trans b1.size b2.size))).trans (b4.mono (Nat.le_trans b1.size (Nat.le_trans b2.size b3.size)))).trans (b5.mono (Nat.le_trans b1.size (Nat.le_trans b2.size (Nat.le_trans b3.size b4.size)))))
  clear r1 r2 b1 b2 b3 b4 b5
  go_wp2_with fail
  refine (Texts.texts _ _ _ _ _ q1 q2).mono ?_
  rintro e w6 ⟨rfl, hsm⟩
  rw [show decide (List.map SplitP.bytes (WordsP.words line).1 = List.map SplitP.bytes (WordsP.words line).1) = true from decide_eq_true rfl]
  go_wp2_with fail
  go_ret
  exact ⟨rfl, hsm.below bb⟩

theorem bulk_two {H : Type} {a b : List UInt8} (hk : Rows.uptoSmall H [.lit (.string a), .lit (.string b)] = true) : a.length + b.length ≤ 1048576 := by
  have h := of_decide_eq_true hk
  simp only [Rows.uptoBulkAll, Rows.uptoBulk] at h
  omega

theorem contract (H : Type) (enc : TypeId × Value → H) (W : World) (base : Nat) (args : Array Value) (ds gs : List (DataW H)) (before : List MemPlace)
    (hval : ∀ (j : Nat) t v, Tryd.f3.params[j]? = some t → args[j]? = some v → Value.okWide Tryd.prog W .any base t v)
    (hW : DataW.Whole enc Tryd.prog Tryd.f3.params.toList Rows.shellWordsSpec.vars false W args.toList ds gs before) (hk : Rows.uptoSmall H (ds ++ gs) = true) :
    Calls Tryd.prog 3 args W fun e W' => ∃ v, e = .returned v ∧ Rows.shellWordsSpec.post enc Tryd.prog Tryd.f3 false true false false W args v W' := by
  have hW' := hW
  obtain ⟨p, q, hA0, hV, rfl, hfz, hnd⟩ := hW
  have hA : DataW.TrodAll enc Tryd.prog W 0 (fun _ => true) true Tryd.f3.params.toList args.toList ds p := hA0
  rw [Tryd.params3] at hA hval
  obtain ⟨v0, vs0, d0, ds0, p0, q0, hargs, rfl, rfl, h0, r0⟩ := trodAll_cons hA
  obtain ⟨v1, vs1, d1, ds1, p1, q1, rfl, rfl, rfl, h1, r1⟩ := trodAll_cons r0
  obtain ⟨rfl, rfl, rfl⟩ := trodAll_nil r1
  obtain rfl : args = #[v0, v1] := by cases args; simp_all
  obtain ⟨rfl, rfl⟩ := trodVars_none hV
  obtain ⟨s0, rfl, rfl, rfl, hs0⟩ := open_string Tryd.underlying9 (hval 0 9 v0 rfl rfl) h0
  obtain ⟨s1, rfl, rfl, rfl, hs1⟩ := open_string Tryd.underlying9 (hval 1 9 v1 rfl rfl) h1
  clear hA0
  simp only [List.append_nil] at hW' hk
  have hb := bulk_two hk
  refine (walk s0 s1 (by simpa using hb) W).mono fun e W' ⟨he, bel⟩ => ?_
  subst he
  exact ⟨_, rfl, _, _, _, [], _, [], hW', trodAll_mk1 (shut_bool Tryd.underlying4 _), (trodAll_cons_mk (shut_string Tryd.underlying9 hs0) (trodAll_cons_mk (shut_string Tryd.underlying9 hs1) trodAll_mk0)), rfl, bel.frame _, fun h => by cases h⟩

theorem reads (os : Os) {H : Type} (enc : TypeId × Value → H) : ∃ places, DataW.whole enc Tryd.prog ((Laid.world os).forCall (fun _ _ => 0) ⟨#[], #[.string ⟨#[]⟩, .string ⟨#[]⟩], []⟩).memory Tryd.f3.params.toList Rows.shellWordsSpec.vars false #[Value.string ⟨#[]⟩, .string ⟨#[]⟩].toList 8 = some ([.lit (.string []), .lit (.string [])], [], places) :=
  ⟨[], by kernel_rfl⟩

set_option maxRecDepth 100000 in
theorem lifted (os : Os) (started : os.Started) (H : Type) (enc : TypeId × Value → H) (F : Stop.Interp) :
    ReturnsInHanded {} Tryd.checked os 3 .any ((Rows.OpenSpec.upto Rows.shellWordsSpec).preRow enc Tryd.prog Tryd.f3 Rows.shellWordsUptoRow.domain false Rows.shellWordsUptoRow.laid) (((Rows.OpenSpec.upto Rows.shellWordsSpec).at F).post enc Tryd.prog Tryd.f3 false true false false) := by
  obtain ⟨places, hx⟩ := reads os enc
  refine returnsInHanded_of_row (C := Tryd.checked) (s := Rows.OpenSpec.upto Rows.shellWordsSpec) own started (by kernel_rfl) Tryd.func3
    (witness_row_at (enc := enc) (C := Tryd.checked) false (Laid.world os) #[.string ⟨#[]⟩, .string ⟨#[]⟩] rfl (by kernel_rfl) (by kernel_rfl) (by kernel_rfl)
      (OpenSpec.preRow_of_cond 8 hx (by kernel_rfl) (fun k hk => by cases hk; kernel_rfl) (by kernel_rfl) (Laid.met os _))) ?_
  intro W base args ds gs before hval hW _ hcond _ _ _ _
  exact contract H enc W base args ds gs before hval hW (hcond _ rfl)

theorem said : Rows.ShellWordsUptoSaid :=
  OpenClaim.holds_of_cond 3 Tryd.f3 rfl rfl rfl rfl rfl rfl rfl ⟨rfl, rfl, rfl, rfl, rfl⟩ rfl rfl rfl rfl rfl (by kernel_rfl) Tryd.func3 (by kernel_rfl)
    (of_decide_eq_true (by kernel_rfl)) (by unfold Func.isWrapper; first | (rw [if_pos (by decide +kernel)]; kernel_rfl) | (rw [if_neg (by decide +kernel)]; exact ⟨rfl, rfl⟩))
    (fun os started H enc _ F => by rw [OpenClaim.pre_eq_preRow]; exact lifted os started H enc F)

theorem plain (f : FuncId) (fn : Func) (hf : Tryd.pinned.checked.prog.funcNamed "depot/depotlaw25.ShellWords" = some f) (hfn : Tryd.pinned.checked.prog.funcs[f]? = some fn) :
    false = Tryd.pinned.checked.prog.looks [] ∧ ∀ (j : Nat) t, fn.params[j]? = some t → Tryd.pinned.checked.prog.wantsStandIn t = false := by
  obtain rfl : f = 3 := Option.some.inj ((show Tryd.prog.funcNamed "depot/depotlaw25.ShellWords" = some 3 by kernel_rfl).symm.trans hf) |>.symm
  obtain rfl : fn = Tryd.f3 := (Option.some.inj (Tryd.func3.symm.trans hfn)).symm
  refine ⟨by kernel_rfl, fun j t ht => ?_⟩
  rw [Tryd.params3] at ht
  obtain rfl : t = 9 := by simpa using Array.mem_of_getElem? ht
  exact (show Tryd.prog.wantsStandIn 9 = false by kernel_rfl)

/-- The statement. -/
theorem card : Rows.ShellWordsUptoCardSaid :=
  Claim7.holds_tied_plain_at .later [] _ _ _ _ said (fun _ h => by cases h) (by kernel_rfl) (fun _ h => by cases h) shellWordsUpto_row_tie rfl ⟨rfl, rfl⟩ (by kernel_rfl) rfl plain (by kernel_rfl)
#print axioms card
end Go.Proofs.YtgkdnnklcbacmaaDoor.shellWords
