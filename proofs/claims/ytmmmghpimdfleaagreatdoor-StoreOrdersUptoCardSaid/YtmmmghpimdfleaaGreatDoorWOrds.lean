/-
  StoreOrders: the walk of the law.
-/
import Derived.Test.YtmmmghpimdfleaaGreatDoorStock
import Derived.Test.YtmmmghpimdfleaaGreatDoorAwk
import Derived.Test.YtmmmghpimdfleaaGreatDoorAcyc
import Derived.Test.YtmmmghpimdfleaaGreatDoorWReach
import Derived.Test.YtmmmghpimdfleaaGreatDoorVRefs
import Derived.Test.YtmmmghpimdfleaaGreatDoorCm
import Derived.Test.YtmmmghpimdfleaaGreatDoorSrtd
import Derived.StillTailTactics
set_option linter.unusedVariables false
set_option linter.unusedSimpArgs false
namespace Go.Proofs.YtmmmghpimdfleaaGreatDoor.storeOrders
open Go.RowKit Mem Tr St
open Go.Proofs.YtmmmghpimdfleaaGreatDoor.Own
open Go.Proofs.YtmmmghpimdfleaaGreatDoor.storeReach (mem_bulks rch_size rch_mono nodup_len)
open Go.Proofs.YtmmmghpimdfleaaGreatDoor.Swp (Cm)

theorem rch_has {rs : List Rec} {roots : List ByteArray} (hc : ∀ r ∈ rs, ∀ q ∈ r.refs, Sto.has rs q = true) (h : ∀ q ∈ roots, Sto.has rs q = true) {p : ByteArray} (hp : Rch rs roots p) : Sto.has rs p = true := by
  induction hp with
  | root hm => exact h _ hm
  | step _ hr hq _ => exact hc _ hr _ hq
def missB (rs : List Rec) (l : List ByteArray) : Bool := l.any fun q => !Sto.has rs q
theorem missB_snoc (rs : List Rec) (l : List ByteArray) (q : ByteArray) : missB rs (l ++ [q]) = (missB rs l || !Sto.has rs q) := by
  unfold missB; rw [List.any_append]; simp
theorem missB_false {rs : List Rec} {l : List ByteArray} (h : missB rs l = false) : ∀ q ∈ l, Sto.has rs q = true := by
  intro q hq
  have := List.any_eq_false.1 h q hq
  simpa using this
theorem miss_ok {rs : List Rec} {l : List ByteArray} (h : ∀ q ∈ l, Sto.has rs q = true) : missB rs l = false := by
  unfold missB; rw [List.any_eq_false]; intro q hq; simp [h q hq]

theorem step_append_own {P : Program} {ops : Array Oper} {o : Oper} {a : Act} {w : World} {K : Act → World → Prop} {Q : Exit → Act → World → Prop} {E : Prop}
    (hg : o.guard = none) (s x : Operand) (t : TypeId) (hop : o.op = Op.call { callee := Callee.builtin Builtin.append, args := #[s, x], argTypes := #[t, t] })
    (v u v' : Value) (w' : World) (hs : a.eval s = v) (hx : a.eval x = u) (hrun : (Builtin.append_ #[t, t] o.type #[v, u]).run P w = .ok v' w') (hK : K (a.put o.dst v') w') :
    if Region.wanted o (yielded ops a.tmps) = true then Oper.wp P o a w K Q else E := by
  have hw : Region.wanted o (yielded ops a.tmps) = true := by simp [Region.wanted, hg]
  rw [if_pos hw]
  unfold Oper.wp
  simp [execOp, hop, resolve, invoke, builtin, hs, hx, hrun, Result.andThen]
  exact hK

set_option maxHeartbeats 8000000 in
set_option maxRecDepth 20000 in
theorem walk {rc st : Nat → BitVec 32} (w : World) (hg : Sum.Gl rc st w) (v : Value) (l : List Rec) (hr : Op.Recs (fun b => b < w.heap.size) w v l) (rv : Value) (roots : List ByteArray) (hro : Strs (fun b => b < w.heap.size) w rv roots) (hcap : ∀ n cap, rv = .slice none n cap → cap = 0) (hb : Op.bulkR l + 2 * bulks roots ≤ 2097152) :
    Calls Tryz.prog 12 #[v, rv] w fun e w' => e = .returned (.bool true) ∧ Below w.heap.size w w' := by
  have HR := Lib.hid hr
  have HG := Lib.hid hg
  have HRO := Lib.hid hro
  have hK := stk rc st l (by omega)
  have hac : Acyc (stockF rc st [] l) := acyc l (by omega)
  obtain ⟨rs, hrs⟩ : ∃ rs, stockF rc st [] l = rs := ⟨_, rfl⟩
  have HRS := Lib.hid hrs
  rw [hrs] at hK hac
  have HAC := Lib.hid hac
  have hll := bulkR_len l
  have hrl : rs.length ≤ 1048576 := by have := hK.len; omega
  have HRL := Lib.hid hrl
  have HGOOD := Lib.hid hK.good
  have HWT := Lib.hid (show wt0 rs ≤ 2097152 by have h1 := hK.wt; have h2 := bulkR_wt l; omega)
  have HBK := Lib.hid (show ∀ r ∈ rs, r.bulk + 2 ≤ 2097152 from fun r hr => by have := bulkR_mem (hK.mem r hr); omega)
  have hbl : Op.bulkR l ≤ 4194304 := by omega
  have hrol : roots.length ≤ 1048576 := by have := length_bulks roots; omega
  have HPS := Lib.hid (show ∀ p, Rch rs roots p → p.size ≤ 2097152 from fun p hp => rch_size (fun q hq => by have := mem_bulks hq; omega) (fun r hr q hq => by
    have h1 := mem_bulks hq
    have h2 := bulkR_mem (hK.mem r hr)
    unfold Rec.bulk at h2
    omega) hp)
  obtain ⟨m, hm⟩ : ∃ m, roots.length = m := ⟨_, rfl⟩
  have HM := Lib.hid hm
  have HC := Lib.hid (show ∀ (M F S : Nat → Prop) (s : Nat) (rv' : Value) (ros : List ByteArray) (w' : World), Is M F w' s rs → Strs S w' rv' ros → (∀ p ∈ ros, Rch rs roots p) → ros.length ≤ 4194304 → Calls Tryz.prog 39 #[.pointer (some ⟨s, 0, none⟩), rv'] w' (PostClos w' rs ros) from
    fun M F S s rv' ros w' h1 h2 h3 h4 => closureC M F S s rs rv' ros w' h1 (by omega) h2 (by have := HWT.out; unfold wt0 at this; omega) (fun p hp => by have := HPS.out p (rch_mono h3 hp); unfold maxLen; omega))
  have HO := Lib.hid (show ∀ (M F S : Nat → Prop) (s : Nat) (rv' : Value) (ros : List ByteArray) (w' : World), Is M F w' s rs → Strs S w' rv' ros → (∀ p ∈ ros, Rch rs roots p) → ros.length ≤ 4194304 → Calls Tryz.prog 38 #[.pointer (some ⟨s, 0, none⟩), rv'] w' (PostOrd F w' rs ros) from
    fun M F S s rv' ros w' h1 h2 h3 h4 => orderC M F S s rs rv' ros w' h1 (by omega) h2 (by have := HWT.out; unfold wt0 at this; omega) (fun p hp => by have := HPS.out p (rch_mono h3 hp); unfold maxLen; omega))
  rw [hm] at hrol
  obtain ⟨ao, cap, rfl, _, _, _⟩ := hro
  rw [hm] at HRO
  rw [hm]
  clear hr hg hK hac hll hrs hm hb hcap hrl
  go_enter Tryz.func12, Tryz.ntmps12
  go_wp2_with fail
  refine (stockedC17 rc st v l w HG.out HR.out hbl).mono ?_
  rintro e w1 ⟨M, F, s, rfl, h1, hMF, b1⟩
  rw [HRS.out] at h1
  have H1 := Lib.hid h1
  clear h1 hMF
  go_wp2_with fail
  refine (awakeC rc st w1 (HG.out.below b1)).mono ?_
  rintro e w2 ⟨rfl, b2⟩
  have B2 := b1.trans (b2.mono b1.size)
  go_wp2_with fail
  refine (HC.out M F _ s _ roots w2 (H1.out.below b2) (HRO.out.below B2) (fun p hp => .root hp) (by rw [HM.out]; omega)).mono ?_
  rintro e w3 ⟨b3, ⟨q, h1, h2, rfl⟩ | ⟨v1, La, rfl, ho1, hris, hmem, hpath⟩⟩
  · have B3 := B2.trans (b3.mono B2.size)
    have hmb : missB rs roots = true := by
      cases hh : missB rs roots with
      | true => rfl
      | false => rw [rch_has HGOOD.out.closed (missB_false hh) h1] at h2; cases h2
    have HMB := Lib.hid hmb
    have HQ := Lib.hid (show Rch rs roots q ∧ Sto.has rs q = false from ⟨h1, h2⟩)
    have H3 := Lib.hid ((H1.out.below b2).below b3)
    clear h1 h2 hmb
    go_wp2_with fail
    refine (HO.out M F _ s _ roots w3 H3.out (HRO.out.below B3) (fun p hp => .root hp) (by rw [HM.out]; omega)).mono ?_
    rintro e w4 ⟨b4, ⟨q2, h1, h2, rfl⟩ | ⟨v4, gs, out, rfl, hrow, hnd, hgs, hpt, hord⟩⟩
    · have B4 := B3.trans (b4.mono B3.size)
      have H4 := Lib.hid (H3.out.below b4)
      clear h1 h2
      go_wp2_with fail
      go_loopw [10, 12, 54] (fun x10 _ i wr => ∃ k : Nat, k ≤ m ∧ i = .int .i64 k ∧ x10 = .bool (missB rs (roots.take k)) ∧ Below w4.heap.size w4 wr) (fun _ _ i _ => m - (intOf i).toNat)
      case atStart => exact ⟨0, Nat.zero_le _, rfl, rfl, Below.refl _ _⟩
      case round =>
        obtain ⟨k, hk, rfl, rfl, br⟩ := hrel
        have BR := B4.trans (br.mono B4.size)
        by_cases hlt : k < m
        · obtain ⟨rb, ro, rcap, hrv, hcells⟩ := strs_at (HRO.out.below BR) (by rw [HM.out]; omega)
          injection hrv with hrv1 hrv2 hrv3
          subst hrv1
          clear hrv2 hrv3
          have hkl : k < roots.length := by rw [HM.out]; exact hlt
          have gk := hcells k hkl
          have hsn := missB_snoc rs (roots.take k) roots[k]
          rw [← List.take_succ_eq_append_getElem hkl] at hsn
          obtain ⟨q, hq⟩ : ∃ q, roots[k] = q := ⟨_, rfl⟩
          rw [hq] at gk hsn
          have HSN := Lib.hid hsn
          have e0 : (0 : Int) ≤ (k : Int) := Int.natCast_nonneg _
          have e1 : (k : Int) < (m : Int) := by omega
          clear hcells hq hsn hkl
          generalize missB rs (roots.take k) = B at *
          cases B with
          | true =>
            go_wp2_with fail
            go_roundw
            case rel => exact ⟨k + 1, by omega, by go_num, by rw [HSN.out]; rfl, br⟩
            case measure => simp [intOf]; omega
          | false =>
            go_wp2_with fail
            refine (hasC M F s rs q wr (H4.out.below br) (by have := HRL.out; omega)).mono ?_
            rintro e w5 ⟨rfl, b5⟩
            have br5 := br.trans (b5.mono br.size)
            generalize Sto.has rs q = B2 at *
            cases B2 with
            | true =>
              go_wp2_with fail
              go_roundw
              case rel => exact ⟨k + 1, by omega, by go_num, by rw [HSN.out]; rfl, br5⟩
              case measure => simp [intOf]; omega
            | false =>
              go_wp2_with fail
              go_roundw
              case rel => exact ⟨k + 1, by omega, by go_num, by rw [HSN.out]; rfl, br5⟩
              case measure => simp [intOf]; omega
        · have hkm : m = k := by omega
          subst hkm
          rw [List.take_of_length_le (by rw [HM.out]; exact Nat.le_refl _), HMB.out]
          go_wp2_with fail
          go_ret
          exact ⟨rfl, BR⟩
    · have h3 := (hpt q).2 HQ.out.1
      unfold paths at h3
      obtain ⟨x, hx, e⟩ := List.mem_map.1 h3
      have := Sto.has_of_mem HGOOD.out.rise (hgs x hx)
      rw [e, HQ.out.2] at this
      cases this
  · have B3 := B2.trans (b3.mono B2.size)
    have HHAS := Lib.hid (show ∀ p, Rch rs roots p → Sto.has rs p = true from fun p hp => by
      obtain ⟨r, hr, e⟩ := hpath p ((hmem p).2 hp)
      rw [← e]; exact Sto.has_of_mem HGOOD.out.rise hr)
    have H3 := Lib.hid ((H1.out.below b2).below b3)
    have hLl : La.length ≤ 1048576 := by
      have h1 : La.length ≤ (rs.map Rec.path).length := nodup_sub (Srt.ris_nodup hris) (fun p hp => by
        obtain ⟨r, hr, e⟩ := hpath p hp
        exact List.mem_map.2 ⟨r, hr, e⟩)
      rw [List.length_map] at h1
      have := HRL.out
      omega
    have HMEM := Lib.hid (show Srt.Ris La ∧ ∀ p, p ∈ La ↔ Rch rs roots p from ⟨hris, hmem⟩)
    obtain ⟨a1, c1, rfl⟩ := Tab.own_len ho1
    have HSA := Lib.hid (show Strs (fun b => w2.heap.size ≤ b) w3 (.slice a1 La.length c1) La from Strs.of_own ho1)
    obtain ⟨na, hna⟩ : ∃ na, La.length = na := ⟨_, rfl⟩
    have HNA := Lib.hid hna
    rw [hna] at hLl HSA ⊢
    clear ho1 hris hmem hpath hna
    go_wp2_with fail
    refine (HO.out M F _ s _ roots w3 H3.out (HRO.out.below B3) (fun p hp => .root hp) (by rw [HM.out]; omega)).mono ?_
    rintro e w4 ⟨b4, ⟨q2, h1, h2, rfl⟩ | ⟨v4, gs, out, rfl, hrow, hnd, hgs, hpt, hord⟩⟩
    · rw [HHAS.out q2 h1] at h2; cases h2
    have hall := ord_all HAC.out hgs hnd hpt hord
    have B4 := B3.trans (b4.mono B3.size)
    have H4 := Lib.hid (H3.out.below b4)
    have HORD := Lib.hid (show (∀ x ∈ gs, x.1 ∈ rs) ∧ (paths gs).Nodup ∧ (∀ p, p ∈ paths gs ↔ Rch rs roots p) ∧ OrdSpec gs out from ⟨hgs, hnd, hpt, hord⟩)
    have HALL := Lib.hid hall
    have hlo : na = out.length := by rw [← HNA.out]; exact nodup_len (Srt.ris_nodup HMEM.out.1) hord.1.nodup (fun p => by rw [HMEM.out.2, hall])
    obtain ⟨a4, c4, rfl⟩ := Tab.own_len hrow
    have HROW := Lib.hid (show w4.ownsRow w3.heap.size 9 1 (.slice a4 out.length c4) out.length (out.map .string) from hrow)
    have HOL := Lib.hid hlo.symm
    rw [← hlo] at HROW ⊢
    have HSA4 := Lib.hid (HSA.out.below b4)
    clear hrow hnd hgs hpt hord hall hlo
    go_wp2_with fail
    go_loopw [10, 12, 54] (fun x10 _ i wr => ∃ k : Nat, k ≤ m ∧ i = .int .i64 k ∧ x10 = .bool false ∧ Below w4.heap.size w4 wr) (fun _ _ i _ => m - (intOf i).toNat)
    case atStart => exact ⟨0, Nat.zero_le _, rfl, rfl, Below.refl _ _⟩
    case round =>
      obtain ⟨k, hk, rfl, rfl, br⟩ := hrel
      have BR := B4.trans (br.mono B4.size)
      by_cases hlt : k < m
      · obtain ⟨rb, ro, rcap, hrv, hcells⟩ := strs_at (HRO.out.below BR) (by rw [HM.out]; omega)
        injection hrv with hrv1 hrv2 hrv3
        subst hrv1
        clear hrv2 hrv3
        have hkl : k < roots.length := by rw [HM.out]; exact hlt
        have gk := hcells k hkl
        have hhq := HHAS.out roots[k] (.root (List.getElem_mem _))
        obtain ⟨q, hq⟩ : ∃ q, roots[k] = q := ⟨_, rfl⟩
        rw [hq] at gk hhq
        have HHQ := Lib.hid hhq
        have e0 : (0 : Int) ≤ (k : Int) := Int.natCast_nonneg _
        have e1 : (k : Int) < (m : Int) := by omega
        clear hcells hq hhq hkl
        go_wp2_with fail
        refine (hasC M F s rs q wr (H4.out.below br) (by have := HRL.out; omega)).mono ?_
        rintro e w5 ⟨rfl, b5⟩
        have br5 := br.trans (b5.mono br.size)
        rw [HHQ.out]
        go_wp2_with fail
        go_roundw
        case rel => exact ⟨k + 1, by omega, by go_num, rfl, br5⟩
        case measure => simp [intOf]; omega
      · have hkm : m = k := by omega
        subst hkm
        have mk : (Instr.makeMap 67 none).run Tryz.prog wr = .ok (.map (some wr.heap.size)) (wr.alloc (.map #[] 0)) := run_makeMap _ wr
        obtain ⟨w5, hw5⟩ : ∃ W, wr.alloc (.map #[] 0) = W := ⟨_, rfl⟩
        have HCM := Lib.hid (show Cm w5 wr.heap.size 0 (fun _ => 0) by rw [← hw5]; exact Cm.made wr)
        have b5 : Below wr.heap.size wr w5 := by rw [← hw5]; exact (Below.refl _ wr).alloc (Nat.le_refl _) _
        rw [hw5] at mk
        have br5 := br.trans (b5.mono br.size)
        have hsz4 : w4.heap.size ≤ wr.heap.size := br.size
        obtain ⟨bm, hbm⟩ : ∃ bm, wr.heap.size = bm := ⟨_, rfl⟩
        rw [hbm] at HCM mk hsz4
        have hbl5 : bm < w5.heap.size := HCM.out.lt
        clear hw5 hbm
        go_wp2_with fail
        clear mk
        go_loopw [14, 15, 16, 17, 19, 98] (fun _ _ _ _ _ i wr => ∃ k : Nat, k ≤ na ∧ i = .int .i64 k ∧ Hid (∃ cnt, Cm wr bm k cnt ∧ ∀ u, cnt u = 0 ↔ u ∉ out.take k) ∧ Below w4.heap.size w4 wr) (fun _ _ _ _ _ i _ => na - (intOf i).toNat)
        case atStart => exact ⟨0, Nat.zero_le _, rfl, Lib.hid ⟨_, HCM.out, fun u => by simp⟩, br5⟩
        case round =>
          obtain ⟨k, hk, rfl, HJ, bj⟩ := hrel
          have BJ := B4.trans (bj.mono B4.size)
          have hst : Strs (fun b => w3.heap.size ≤ b) wr (.slice a4 na c4) out := by
            have h := Copy.own_below HROW.out bj
            rw [← HOL.out] at h ⊢
            exact Strs.of_own h
          by_cases hlt : k < na
          · obtain ⟨rb, ro, rcap, hrv, hcells⟩ := strs_at hst (by rw [HOL.out]; omega)
            rw [HOL.out] at hrv
            injection hrv with hrv1 hrv2 hrv3
            subst hrv1
            clear hrv2 hrv3
            have hkl : k < out.length := by rw [HOL.out]; exact hlt
            have gk := hcells k hkl
            obtain ⟨cnt, hcm, hcz⟩ := HJ.out
            have hsub := HORD.out.2.2.2.1 k hkl
            have hpr := (HALL.out out[k]).1 (List.getElem_mem _)
            obtain ⟨r, hr, hrp, hrefs⟩ := refsOf_rec HORD.out.1 HORD.out.2.1 hsub.1.1
            have htk : ∀ u, u ∈ out.take (k + 1) ↔ u ∈ out.take k ∨ u = out[k] := fun u => by rw [List.take_succ_eq_append_getElem hkl, List.mem_append, List.mem_singleton]
            have hdep : ∀ q ∈ r.refs, q ≠ out[k] → cnt q ≠ 0 := fun q hq hne h0 => (hcz q).1 h0 (hsub.1.2.2 q (by unfold deps; rw [hrefs, List.mem_filter, decide_eq_true_eq]; exact ⟨hq, hne⟩))
            have hp0 : cnt out[k] = 0 := (hcz _).2 hsub.1.2.1
            obtain ⟨p, hp⟩ : ∃ p, out[k] = p := ⟨_, rfl⟩
            rw [hp] at gk hpr hrp htk hdep hp0
            have hps := HPS.out p hpr
            have hget : Sp.get Rec.path rs p = some r := by rw [← hrp]; exact Sp.get_of_mem HGOOD.out.rise hr
            have HGET := Lib.hid hget
            have HDEP := Lib.hid (show (∀ q ∈ r.refs, q ≠ p → cnt q ≠ 0) ∧ (∀ q ∈ r.refs, q.size ≤ 2097152) from ⟨hdep, fun q hq => by
              have h1 := HBK.out r hr
              have h2 := mem_bulks hq
              unfold Rec.bulk at h1; omega⟩)
            have HTK := Lib.hid htk
            have HCZ := Lib.hid hcz
            have HCM2 := Lib.hid hcm
            have HP0 := Lib.hid hp0
            have hrfl : r.refs.length ≤ 2097152 := by have h1 := HBK.out r hr; unfold Rec.bulk at h1; have := length_bulks r.refs; omega
            have e0 : (0 : Int) ≤ (k : Int) := Int.natCast_nonneg _
            have e1 : (k : Int) < (na : Int) := by omega
            clear hcells hp hpr hrp hr hrefs hsub hcm hcz hdep htk hp0 hget HJ hst hkl
            go_wp2_with fail
            refine (refsC M F s rs p wr (H4.out.below bj) (by have := HRL.out; omega) HGOOD.out.bulk).mono ?_
            rintro e w6 ⟨b6, hm⟩
            rw [HGET.out] at hm
            obtain ⟨v6, rfl, ho6⟩ := hm
            have bj6 := bj.trans (b6.mono bj.size)
            have HS6 := Lib.hid (show Strs (fun b => wr.heap.size ≤ b) w6 v6 r.refs from Strs.of_own ho6)
            obtain ⟨a6, c6, rfl⟩ := Tab.own_len ho6
            obtain ⟨m6, hm6⟩ : ∃ m6, r.refs.length = m6 := ⟨_, rfl⟩
            have HM6 := Lib.hid hm6
            have HCM6 := Lib.hid (HCM2.out.below b6)
            rw [hm6] at HS6 hrfl ⊢
            have hlook := HCM6.out.look (k := p) (by unfold maxLen; omega)
            rw [HP0.out] at hlook
            clear ho6 hm6
            go_wp2_with fail
            clear hlook
            go_loopw [19, 121] (fun _ i wr => ∃ t : Nat, t ≤ m6 ∧ i = .int .i64 t ∧ Below w6.heap.size w6 wr) (fun _ i _ => m6 - (intOf i).toNat)
            case atStart => exact ⟨0, Nat.zero_le _, rfl, Below.refl _ _⟩
            case round =>
              obtain ⟨t, ht, rfl, bt⟩ := hrel
              have bjt := bj6.trans (bt.mono bj6.size)
              by_cases hlt6 : t < m6
              · obtain ⟨rb6, ro6, rcap6, hrv, hcells⟩ := strs_at (HS6.out.below bt) (by rw [HM6.out]; omega)
                injection hrv with hrv1 hrv2 hrv3
                subst hrv1
                clear hrv2 hrv3
                have htl : t < r.refs.length := by rw [HM6.out]; exact hlt6
                have gt := hcells t htl
                have hd := HDEP.out.1 r.refs[t] (List.getElem_mem _)
                have hs := HDEP.out.2 r.refs[t] (List.getElem_mem _)
                obtain ⟨q, hq⟩ : ∃ q, r.refs[t] = q := ⟨_, rfl⟩
                rw [hq] at gt hd hs
                have t0 : (0 : Int) ≤ (t : Int) := Int.natCast_nonneg _
                have t1 : (t : Int) < (m6 : Int) := by omega
                clear hcells hq htl
                by_cases hqp : q = p
                · have tt : (q.toList == p.toList) = true := by rw [Eq.bytes_beq]; exact decide_eq_true hqp
                  clear hqp hd
                  go_wp2_with fail
                  go_roundw
                  case rel => exact ⟨t + 1, by omega, by go_num, bt⟩
                  case measure => simp [intOf]; omega
                · have tt : (q.toList == p.toList) = false := by rw [Eq.bytes_beq]; exact decide_eq_false hqp
                  have hlook := (HCM6.out.below bt).look (k := q) (by unfold maxLen; omega)
                  have hne := hd hqp
                  obtain ⟨c, hc⟩ : ∃ c, cnt q = c := ⟨_, rfl⟩
                  rw [hc] at hlook hne
                  have hcb : (c == 0) = false := by simpa using hne
                  clear hqp hd hne hc
                  go_wp2_with fail
                  go_roundw
                  case rel => exact ⟨t + 1, by omega, by go_num, bt⟩
                  case measure => simp [intOf]; omega
              · have htm : m6 = t := by omega
                subst htm
                obtain ⟨w7, hrun, hcm7, hg7, hs7⟩ := (HCM6.out.below bt).store (by unfold maxLen; omega) (k := p) (by unfold maxLen; omega) ((k : Int) + 1)
                have HNEW := Lib.hid (show ∃ cnt, Cm w7 bm (k + 1) cnt ∧ ∀ u, cnt u = 0 ↔ u ∉ out.take (k + 1) from ⟨_, hcm7, fun u => by
                  show (if u = p then (k : Int) + 1 else cnt u) = 0 ↔ _
                  rw [HTK.out, not_or]
                  by_cases e : u = p
                  · rw [if_pos e]
                    exact ⟨fun h => by omega, fun h => absurd e h.2⟩
                  · rw [if_neg e, HCZ.out]
                    exact ⟨fun h => ⟨h, e⟩, fun h => h.1⟩⟩)
                have bj7 : Below w4.heap.size w4 w7 := bjt.grown hg7 bjt.size (fun k e => by cases e; exact hsz4)
                have hwk : IntKind.i64.wrap ((k : Int) + 1) = (k : Int) + 1 := by rw [IntKind.wrap_i64]; omega
                clear hcm7 hg7 hs7
                go_wp2_with fail
                go_roundw
                case rel => exact ⟨k + 1, by omega, by go_num, HNEW, bj7⟩
                case measure => simp [intOf]; omega
          · have hkn : na = k := by omega
            subst hkn
            obtain ⟨cnt, hcm, hcz⟩ := HJ.out
            have HCM9 := Lib.hid hcm
            have HCZ := Lib.hid (show ∀ p, Rch rs roots p → cnt p ≠ 0 from fun p hp h0 => by
              have := (hcz p).1 h0
              rw [List.take_of_length_le (by rw [HOL.out]; exact Nat.le_refl _)] at this
              exact this ((HALL.out p).2 hp))
            have HST9 := Lib.hid hst
            clear hcm hcz HJ hst
            go_wp2_with fail
            generalize wr = w9 at *
            go_loopw [21, 142] (fun _ i wr => ∃ t : Nat, t ≤ m ∧ i = .int .i64 t ∧ Below w9.heap.size w9 wr) (fun _ i _ => m - (intOf i).toNat)
            case atStart => exact ⟨0, Nat.zero_le _, rfl, Below.refl _ _⟩
            case round =>
              obtain ⟨t, ht, rfl, bt⟩ := hrel
              have bjt := bj.trans (bt.mono bj.size)
              have BT := B4.trans (bjt.mono B4.size)
              by_cases hlt6 : t < m
              · obtain ⟨rb6, ro6, rcap6, hrv, hcells⟩ := strs_at (HRO.out.below BT) (by rw [HM.out]; omega)
                injection hrv with hrv1 hrv2 hrv3
                subst hrv1
                clear hrv2 hrv3
                have htl : t < roots.length := by rw [HM.out]; exact hlt6
                have gt := hcells t htl
                have hrt : Rch rs roots roots[t] := .root (List.getElem_mem _)
                have hd := HCZ.out roots[t] hrt
                have hs := HPS.out roots[t] hrt
                obtain ⟨q, hq⟩ : ∃ q, roots[t] = q := ⟨_, rfl⟩
                rw [hq] at gt hd hs
                have t0 : (0 : Int) ≤ (t : Int) := Int.natCast_nonneg _
                have t1 : (t : Int) < (m : Int) := by omega
                have hlook := (HCM9.out.below bt).look (k := q) (by unfold maxLen; omega)
                obtain ⟨c, hc⟩ : ∃ c, cnt q = c := ⟨_, rfl⟩
                rw [hc] at hlook hd
                have hcb : (c == 0) = false := by simpa using hd
                clear hcells hq htl hrt hd hc
                go_wp2_with fail
                go_roundw
                case rel => exact ⟨t + 1, by omega, by go_num, bt⟩
                case measure => simp [intOf]; omega
              · have htm : m = t := by omega
                subst htm
                have hstO := HST9.out.below bt
                have HSO := Lib.hid (hstO.sub (S' := fun b => b < wr.heap.size) (fun b h _ => h))
                go_wp2_with fail
                refine (Srtd.sortedC _ out wr HSO.out (by rw [HOL.out]; omega)).mono ?_
                rintro e w10 ⟨srt, ⟨v10, rfl, ho10, b10⟩, hris10, hmem10⟩
                obtain rfl : srt = La := Srt.ris_ext hris10 HMEM.out.1 (fun x => by rw [hmem10, HALL.out, HMEM.out.2])
                have bj10 := bjt.trans (b10.mono bjt.size)
                have B10 := B4.trans (bj10.mono B4.size)
                have hr1 : Texts.Reads w10 (.slice a1 na c1) srt := by
                  have h := (HSA4.out.below bj10).reads
                  exact h
                have hr2 : Texts.Reads w10 v10 srt := Texts.Reads.of_own ho10
                obtain ⟨a10, c10, rfl⟩ := Tab.own_len ho10
                clear hris10 hmem10 ho10 hstO
                go_wp2_with fail
                refine (Texts.texts w10 _ _ srt srt hr1 hr2).mono ?_
                rintro e w11 ⟨rfl, sm⟩
                rw [show decide (srt = srt) = true from decide_eq_true rfl]
                have b11 : Below w10.heap.size w10 w11 := sm.below (Below.refl _ _)
                have bj11 := bj10.trans (b11.mono bj10.size)
                have B11 := B4.trans (bj11.mono B4.size)
                clear hr1 hr2 sm
                go_wp2_with fail
                refine (HC.out M F _ s _ srt w11 (H4.out.below bj11) (HSA4.out.below bj11) (fun p hp => (HMEM.out.2 p).1 hp) (by rw [HNA.out]; omega)).mono ?_
                rintro e w12 ⟨b12, ⟨q2, h1, h2, rfl⟩ | ⟨v12, L2, rfl, ho12, hris12, hmem12, hpath12⟩⟩
                · rw [HHAS.out q2 (rch_mono (fun p hp => (HMEM.out.2 p).1 hp) h1)] at h2; cases h2
                obtain rfl : L2 = srt := Srt.ris_ext hris12 HMEM.out.1 (fun x => by
                  rw [hmem12, HMEM.out.2]
                  exact ⟨fun h => rch_mono (fun p hp => (HMEM.out.2 p).1 hp) h, fun h => .root ((HMEM.out.2 x).2 h)⟩)
                have bj12 := bj11.trans (b12.mono bj11.size)
                have B12 := B4.trans (bj12.mono B4.size)
                obtain ⟨a12, c12, rfl⟩ := Tab.own_len ho12
                have HO12 := Lib.hid (show Strs (fun b => w11.heap.size ≤ b) w12 (.slice a12 L2.length c12) L2 from Strs.of_own ho12)
                rw [HNA.out] at HO12 ⊢
                clear ho12 hris12 hmem12 hpath12
                go_wp2_with fail
                generalize wr = w9x at *
                go_loopw [24, 25, 173] (fun x24 _ i wr => ∃ k : Nat, ∃ ao n c, k ≤ m ∧ i = .int .i64 k ∧ x24 = .slice ao n c ∧ Hid (n = 2 * k) ∧ Hid (∃ T : List ByteArray, n = T.length ∧ wr.ownsRow w12.heap.size 9 1 (.slice ao n c) n (T.map .string) ∧ (∀ x ∈ T, x ∈ roots) ∧ ∀ i, i < k → ∀ x, roots[m - 1 - i]? = some x → x ∈ T) ∧ Below w12.heap.size w12 wr) (fun _ _ i _ => m - (intOf i).toNat)
                case atStart => exact ⟨0, none, 0, 0, Nat.zero_le _, rfl, rfl, Lib.hid rfl, Lib.hid ⟨[], rfl, World.ownsRow_nil _ _ _ _, fun x h => (by cases h), fun i h => (by omega)⟩, Below.refl _ _⟩
                case round =>
                  obtain ⟨k, aoT, n, cT, hk9, rfl, rfl, hn2, HT, bt9⟩ := hrel
                  have BT9 := B12.trans (bt9.mono B12.size)
                  have hnle : n ≤ 2097152 := by have := hn2.out; omega
                  by_cases hlt9 : k < m
                  · obtain ⟨rb, ro, rcap, hrv, hcells⟩ := strs_at (HRO.out.below BT9) (by rw [HM.out]; omega)
                    rw [HM.out] at hrv
                    obtain ⟨e1, e2⟩ : ao = some ⟨rb, ro, none⟩ ∧ rcap = cap := by
                      injection hrv with h1 h2 h3
                      exact ⟨h1, h3.symm⟩
                    subst e1
                    clear e2
                    obtain ⟨j, hj⟩ : ∃ j, m = k + 1 + j := ⟨m - k - 1, by omega⟩
                    have hjl : j < roots.length := by rw [HM.out]; omega
                    have h0l : 0 < roots.length := by rw [HM.out]; omega
                    have g1 := hcells j hjl
                    have g2 := hcells 0 h0l
                    obtain ⟨x, hx⟩ : ∃ x, roots[j] = x := ⟨_, rfl⟩
                    obtain ⟨y, hy⟩ : ∃ y, roots[0] = y := ⟨_, rfl⟩
                    rw [hx] at g1
                    rw [hy, Nat.add_zero] at g2
                    have HXY := Lib.hid (show x ∈ roots ∧ y ∈ roots ∧ roots[m - 1 - k]? = some x from ⟨by rw [← hx]; exact List.getElem_mem _, by rw [← hy]; exact List.getElem_mem _, by rw [show m - 1 - k = j by omega, List.getElem?_eq_getElem hjl, hx]⟩)
                    have hw1 : IntKind.i64.wrap ((m : Int) - 1) = (m : Int) - 1 := by rw [IntKind.wrap_i64]; omega
                    have hw2 : IntKind.i64.wrap ((m : Int) - 1 - (k : Int)) = (j : Int) := by rw [IntKind.wrap_i64]; omega
                    have j0 : (0 : Int) ≤ (j : Int) := Int.natCast_nonneg _
                    have j1 : (j : Int) < (m : Int) := by omega
                    have m1 : (0 : Int) < (m : Int) := by omega
                    have m2 : 0 < m := by omega
                    obtain ⟨T, hTl, hTo, hTs, hTm⟩ := HT.out
                    obtain ⟨i0, hi, hz0, hz1, hz2⟩ := info_parts Make.infoStr
                    have hsz1 : w12.heap.size ≤ wr.heap.size := bt9.size
                    obtain ⟨wd, hwd⟩ : ∃ W, wr.drew = W := ⟨_, rfl⟩
                    have bd : Below wr.heap.size wr wd := by rw [← hwd]; exact (Below.refl _ wr).drew
                    have hod : wr.drew.ownsRow w12.heap.size 9 1 (.slice aoT n cT) n (T.map .string) := Tab.own_block hTo (fun b hb => rfl)
                    have hszd : w12.heap.size ≤ wd.heap.size := Nat.le_trans hsz1 bd.size
                    have HNEW := Lib.hid (show ∀ (v' : Value) (W8 : World), W8.ownsRow w12.heap.size 9 1 v' (n + 2) (T.map .string ++ [.string x, .string y]) → ∃ T : List ByteArray, n + 2 = T.length ∧ W8.ownsRow w12.heap.size 9 1 v' (n + 2) (T.map .string) ∧ (∀ x ∈ T, x ∈ roots) ∧ ∀ i, i < k + 1 → ∀ x, roots[m - 1 - i]? = some x → x ∈ T from
                      fun v' W8 hown8 => ⟨T ++ [x, y], by rw [List.length_append, ← hTl]; rfl, by rw [List.map_append]; exact hown8, fun z hz => by
                        rcases List.mem_append.1 hz with hz | hz
                        · exact hTs z hz
                        · simp only [List.mem_cons, List.not_mem_nil, or_false] at hz
                          rcases hz with rfl | rfl
                          · exact HXY.out.1
                          · exact HXY.out.2.1, fun i hi z hz => by
                        rw [List.mem_append]
                        by_cases e : i = k
                        · subst e
                          rw [HXY.out.2.2] at hz
                          obtain rfl := Option.some.inj hz
                          exact .inr (by simp)
                        · exact .inl (hTm i (by omega) z hz)⟩)
                    have HN22 := Lib.hid (show n + 2 = 2 * (k + 1) by have := hn2.out; omega)
                    have HLT := Lib.hid (fun k e => (hTo.lt k e).1)
                    have HWD := Lib.hid hwd
                    have HCW := Lib.hid (show ∀ W', Below w.heap.size w W' → W'.cell? ⟨rb, ro + j, none⟩ = some (.string x) ∧ W'.cell? ⟨rb, ro, none⟩ = some (.string y) from fun W' hb => by
                      obtain ⟨rb', ro', rcap', hrv', hcells'⟩ := strs_at (HRO.out.below hb) (by rw [HM.out]; omega)
                      injection hrv' with e1 e2 e3
                      injection e1 with e1
                      injection e1 with e4 e5 e6
                      subst e4 e5
                      have h1 := hcells' j hjl
                      have h2 := hcells' 0 h0l
                      rw [hx] at h1
                      rw [hy, Nat.add_zero] at h2
                      exact ⟨h1, h2⟩)
                    clear hj hcells hx hy hrv hjl h0l hTl hTo hTs hTm HT hwd
                    go_wp2_with fail
                    have hS3 : ∀ W', Below wr.heap.size wr W' → W'.cell? ⟨rb, ro + j, none⟩ = some (.string x) ∧ W'.cell? ⟨rb, ro, none⟩ = some (.string y) := fun W' hb => ⟨(hb.cell (p := ⟨rb, ro + j, none⟩) (World.block_lt_of_cell? wr _ g1)).trans g1, (hb.cell (p := ⟨rb, ro, none⟩) (World.block_lt_of_cell? wr _ g2)).trans g2⟩
                    have hS8 : ∀ W', Below w.heap.size w W' → W'.cell? ⟨rb, ro + j, none⟩ = some (.string x) ∧ W'.cell? ⟨rb, ro, none⟩ = some (.string y) := HCW.out
                    have hS0 := hS3 wr.drew (Below.refl _ wr).drew
                    refine wp_region_held_drew (S := fun W' => W'.cell? ⟨rb, ro + j, none⟩ = some (.string x) ∧ W'.cell? ⟨rb, ro, none⟩ = some (.string y)) (by kernel_rfl) hS0 (fun hHeld => ?_)
                    refine wpAnyH_take (i := 0) (v := ?_) rfl (by kernel_rfl) (by kernel_rfl) (by kernel_rfl) (fun _ _ _ h => h) (Or.inl ⟨by rfl, ?_⟩) (by assumption) ?_
                    rotate_left
                    · (intro w hSw; go_simp; try with_reducible rfl)
                    simp only [Act.put, List.setIfInBounds_toArray, List.set_cons_zero, List.set_cons_succ]
                    refine wpAnyH_take (i := 1) (v := ?_) rfl (by kernel_rfl) (by kernel_rfl) (by kernel_rfl) (fun _ _ _ h => h) (Or.inl ⟨by rfl, ?_⟩) (by assumption) ?_
                    rotate_left
                    · (intro w hSw; go_simp; try with_reducible rfl)
                    simp only [Act.put, List.setIfInBounds_toArray, List.set_cons_zero, List.set_cons_succ]
                    refine wpAnyH_take (i := 2) (v := ?_) rfl (by kernel_rfl) (by kernel_rfl) (by kernel_rfl) (fun _ _ _ h => h) (Or.inl ⟨by rfl, ?_⟩) (by assumption) ?_
                    rotate_left
                    · (intro w hSw; go_simp; try with_reducible rfl)
                    simp only [Act.put, List.setIfInBounds_toArray, List.set_cons_zero, List.set_cons_succ]
                    refine wpAnyH_take (i := 3) (v := ?_) rfl (by kernel_rfl) (by kernel_rfl) (by kernel_rfl) (fun _ _ _ h => h) (Or.inl ⟨by rfl, ?_⟩) (by assumption) ?_
                    rotate_left
                    · (intro w hSw; go_simp; try with_reducible rfl)
                    simp only [Act.put, List.setIfInBounds_toArray, List.set_cons_zero, List.set_cons_succ]
                    refine wpAnyH_take (i := 4) (v := ?_) rfl (by kernel_rfl) (by kernel_rfl) (by kernel_rfl) (fun _ _ _ h => h) (Or.inl ⟨by rfl, ?_⟩) (by assumption) ?_
                    rotate_left
                    · (intro w hSw; go_simp; try with_reducible rfl)
                    simp only [Act.put, List.setIfInBounds_toArray, List.set_cons_zero, List.set_cons_succ]
                    refine wpAnyH_take (i := 5) (v := ?_) rfl (by kernel_rfl) (by kernel_rfl) (by kernel_rfl) (fun _ _ _ h => h) (Or.inl ⟨by rfl, ?_⟩) (by assumption) ?_
                    rotate_left
                    · (intro w hSw; go_simp; try with_reducible rfl)
                    simp only [Act.put, List.setIfInBounds_toArray, List.set_cons_zero, List.set_cons_succ]
                    refine wpAnyH_take (i := 6) (v := ?_) rfl (by kernel_rfl) (by kernel_rfl) (by kernel_rfl) (fun _ _ _ h => h) (Or.inl ⟨by rfl, ?_⟩) (by assumption) ?_
                    rotate_left
                    · (intro w hSw; go_simp; try with_reducible rfl)
                    simp only [Act.put, List.setIfInBounds_toArray, List.set_cons_zero, List.set_cons_succ]
                    refine wpAnyH_take (i := 7) (v := ?_) rfl (by kernel_rfl) (by kernel_rfl) (by kernel_rfl) (fun _ _ _ h => h) (Or.inl ⟨by rfl, ?_⟩) (by assumption) ?_
                    rotate_left
                    · (intro w hSw; go_simp; try with_reducible rfl)
                    simp only [Act.put, List.setIfInBounds_toArray, List.set_cons_zero, List.set_cons_succ]
                    refine wpAnyH_take (i := 8) (v := ?_) rfl (by kernel_rfl) (by kernel_rfl) (by kernel_rfl) (fun _ _ _ h => h) (Or.inl ⟨by rfl, ?_⟩) (by assumption) ?_
                    rotate_left
                    · (intro w hSw; go_simp; try with_reducible rfl)
                    simp only [Act.put, List.setIfInBounds_toArray, List.set_cons_zero, List.set_cons_succ]
                    refine wpAnyH_take (i := 9) (v := ?_) rfl (by kernel_rfl) (by kernel_rfl) (by kernel_rfl) (fun _ _ _ h => h) (Or.inl ⟨by rfl, ?_⟩) (by assumption) ?_
                    rotate_left
                    · (intro w hSw; go_simp; try with_reducible rfl)
                    simp only [Act.put, List.setIfInBounds_toArray, List.set_cons_zero, List.set_cons_succ]
                    refine wpAnyH_take (i := 10) (v := ?_) rfl (by kernel_rfl) (by kernel_rfl) (by kernel_rfl) (fun _ _ _ h => h) (Or.inl ⟨by rfl, ?_⟩) (by assumption) ?_
                    rotate_left
                    · (intro w hSw; go_simp; try with_reducible rfl)
                    simp only [Act.put, List.setIfInBounds_toArray, List.set_cons_zero, List.set_cons_succ]
                    refine wpAnyH_take (i := 11) (v := ?_) rfl (by kernel_rfl) (by kernel_rfl) (by kernel_rfl) (fun _ _ _ h => h) (Or.inl ⟨by rfl, ?_⟩) (by assumption) ?_
                    rotate_left
                    · (intro w hSw; go_simp; try with_reducible rfl)
                    simp only [Act.put, List.setIfInBounds_toArray, List.set_cons_zero, List.set_cons_succ]
                    refine wpAnyH_ready (rs := [12]) (by kernel_rfl) (by simp) ?_
                    refine AllReadyH.cons rfl (fun K hK => ?_) AllReadyH.nil
                    go_simp
                    change K _ ((wr.drew).alloc (.cells #[.string x, .string y] 9))
                    obtain ⟨WN, hWN⟩ : ∃ W, (wr.drew).alloc (.cells #[.string x, .string y] 9) = W := ⟨_, rfl⟩
                    have hba : Below wr.heap.size wr WN := by rw [← hWN]; exact ((Below.refl _ wr).drew).alloc (Nat.le_refl _) _
                    obtain ⟨v', w8, hrun, hown8, hg8, hnil8, hat8⟩ := run_append_own_at (P := Tryz.prog) WN w12.heap.size 27 27 9 i0 (.string ⟨#[]⟩) 1 16 Tryz.underlying27 hi hz0 hz1 hz2 rfl (by decide) _ _ _ (by rw [← hWN]; exact hod.alloc _) ⟨wr.heap.size, 0, none⟩ 2 2 [.string x, .string y] rfl (by rw [← hWN]; exact World.news_of_block (cs := #[.string x, .string y]) (t := 9) (fr := (0, 0)) (heap_alloc_new wr.drew _)) (by simp [Value.oneCell']) (by unfold maxLen; omega) (by omega) (Nat.le_trans hsz1 hba.size)
                    obtain ⟨g', cap', rfl⟩ := ownsRow_succ hown8
                    have HN8 := Lib.hid hown8
                    have HG8 := Lib.hid hg8
                    rw [hWN]
                    refine hK.out _ _ (hS3 WN hba) (fun hHeld => ?_)
                    clear hK K hWN hown8 hg8 hnil8 hat8
                    refine wpAnyH_ready (rs := [13]) (by kernel_rfl) (by simp) ?_
                    refine AllReadyH.cons rfl (fun K hK => ?_) AllReadyH.nil
                    refine step_append_own rfl _ _ 27 rfl _ _ _ _ rfl rfl hrun ?_
                    have hB8 : Below w12.heap.size w12 w8 := (bt9.trans (hba.mono bt9.size)).grown HG8.out (Nat.le_trans hsz1 hba.size) HLT.out
                    have hB9 : Below w.heap.size w w8 := B12.trans (hB8.mono B12.size)
                    refine hK.out _ _ (hS8 w8 hB9) (fun hHeld => ?_)
                    clear hK K
                    refine wpAnyH_take (i := 14) (v := ?_) rfl (by kernel_rfl) (by kernel_rfl) (by kernel_rfl) (fun _ _ _ h => h) (Or.inl ⟨by rfl, ?_⟩) (by assumption) ?_
                    rotate_left
                    · (intro w hSw; go_simp; try with_reducible rfl)
                    simp only [Act.put, List.setIfInBounds_toArray, List.set_cons_zero, List.set_cons_succ]
                    refine wpAnyH_done (by kernel_rfl) ?_ _
                    clear hHeld
                    have HF := Lib.hid (HNEW.out _ _ HN8.out)
                    clear hod
                    go_wp2_with fail
                    go_roundw
                    case rel => exact ⟨k + 1, _, _, _, by omega, by go_num, rfl, HN22, HF, hB8⟩
                    case measure => simp [intOf]; omega
                  · have hkm : m = k := by omega
                    subst hkm
                    obtain ⟨T, hTl, hTo, hTs, hTm⟩ := HT.out
                    have HTT := Lib.hid (show (∀ x ∈ T, x ∈ roots) ∧ ∀ x ∈ roots, x ∈ T from ⟨hTs, fun x hx => by
                      obtain ⟨i, hi, rfl⟩ := List.mem_iff_getElem.1 hx
                      rw [HM.out] at hi
                      exact hTm (m - 1 - i) (by omega) _ (by rw [show m - 1 - (m - 1 - i) = i by omega, List.getElem?_eq_getElem])⟩)
                    have HTS := Lib.hid (show Strs (fun b => w12.heap.size ≤ b) wr (.slice aoT n cT) T from by
                      have h := hTo
                      rw [hTl] at h ⊢
                      exact Strs.of_own h)
                    have hTl2 : T.length ≤ 4194304 := by rw [← hTl]; omega
                    have bj9 := bj12.trans (bt9.mono bj12.size)
                    clear HT hTl hTo hTs hTm
                    go_wp2_with fail
                    refine (HO.out M F _ s _ T wr (H4.out.below bj9) HTS.out (fun p hp => .root (HTT.out.1 p hp)) hTl2).mono ?_
                    rintro e w13 ⟨b13, ⟨q2, h1, h2, rfl⟩ | ⟨v13, gs2, out2, rfl, hrow2, hnd2, hgs2, hpt2, hord2⟩⟩
                    · rw [HHAS.out q2 (rch_mono (fun p hp => .root (HTT.out.1 p hp)) h1)] at h2; cases h2
                    obtain rfl : out2 = out := ord_one HGOOD.out.rise hgs2 hnd2 HORD.out.1 HORD.out.2.1 (fun p => by
                      rw [hpt2, HORD.out.2.2.1]
                      exact ⟨fun h => rch_mono (fun p hp => .root (HTT.out.1 p hp)) h, fun h => rch_mono (fun p hp => .root (HTT.out.2 p hp)) h⟩) hord2 HORD.out.2.2.2
                    have bj13 := bj9.trans (b13.mono bj9.size)
                    have B13 := B4.trans (bj13.mono B4.size)
                    have hr1 : Texts.Reads w13 (.slice a12 na c12) L2 := (HO12.out.below (bt9.trans (b13.mono bt9.size))).reads
                    have hr2 : Texts.Reads w13 (.slice a1 na c1) L2 := (HSA4.out.below bj13).reads
                    have hr3 : Texts.Reads w13 v13 out2 := Texts.Reads.of_own hrow2
                    have hr4 : Texts.Reads w13 (.slice a4 na c4) out2 := by
                      have h := Texts.Reads.of_own (show w13.ownsRow w3.heap.size 9 1 (.slice a4 na c4) out2.length (out2.map .string) from by rw [HOL.out]; exact Copy.own_below HROW.out bj13)
                      exact h
                    have HR34 := Lib.hid (show Texts.Reads w13 v13 out2 ∧ Texts.Reads w13 (.slice a4 na c4) out2 from ⟨hr3, hr4⟩)
                    obtain ⟨a13, c13, rfl⟩ := Tab.own_len hrow2
                    clear hrow2 hnd2 hgs2 hpt2 hord2 hr3 hr4
                    go_wp2_with fail
                    refine (Texts.texts w13 _ _ L2 L2 hr1 hr2).mono ?_
                    rintro e w14 ⟨rfl, sm⟩
                    rw [show decide (L2 = L2) = true from decide_eq_true rfl]
                    have b14 : Below w13.heap.size w13 w14 := sm.below (Below.refl _ _)
                    have B14 := B13.trans (b14.mono B13.size)
                    clear hr1 hr2 sm
                    go_wp2_with fail
                    refine (Texts.texts w14 _ _ out2 out2 (HR34.out.1.below b14) (HR34.out.2.below b14)).mono ?_
                    rintro e w15 ⟨rfl, sm⟩
                    rw [show decide (out2 = out2) = true from decide_eq_true rfl]
                    have b15 : Below w14.heap.size w14 w15 := sm.below (Below.refl _ _)
                    go_wp2_with fail
                    go_ret
                    exact ⟨rfl, B14.trans (b15.mono B14.size)⟩
end Go.Proofs.YtmmmghpimdfleaaGreatDoor.storeOrders
