import Derived.Laws.FloatArith
namespace Go.Proofs.Ytgkdnnklcbacmaa.F
open Ieee

theorem shl_lt {m s k : Nat} (h : m < 2 ^ k) : m <<< s < 2 ^ (k + s) := by
  rw [Nat.shiftLeft_eq, Nat.pow_add]
  exact Nat.mul_lt_mul_of_pos_right h (Nat.two_pow_pos _)

theorem log2_shl (m s : Nat) (h : m ≠ 0) : (m <<< s).log2 = m.log2 + s := by
  rw [Nat.log2_eq_iff (by rw [Nat.shiftLeft_eq]; have := Nat.two_pow_pos s; exact Nat.mul_ne_zero h (by omega))]
  have h1 := Nat.log2_self_le h
  have h2 := Nat.lt_log2_self (n := m)
  constructor
  · rw [Nat.shiftLeft_eq, Nat.pow_add]; exact Nat.mul_le_mul_right _ h1
  · have := shl_lt (s := s) h2
    rw [show m.log2 + s + 1 = m.log2 + 1 + s from by omega]; exact this

/-- What is kept of a significand is at most 2^53. -/
theorem cut_le (neg : Bool) (n drop : Nat) (h : n / 2 ^ drop < 2 ^ 53) (hd : drop ≤ n.log2 + 2) : Toward.even.cut neg n drop ≤ 2 ^ 53 := by
  unfold Toward.cut
  rw [Nat.min_eq_left hd, Nat.shiftLeft_eq, Nat.one_mul]
  dsimp only
  have hb : ∀ b : Bool, b.toNat ≤ 1 := by intro b; cases b <;> decide
  have := hb (decide (2 ^ drop < 2 * (n % 2 ^ drop)) || 2 ^ drop == 2 * (n % 2 ^ drop) && n / 2 ^ drop % 2 == 1)
  omega

/-- Of a number of no extreme size the nearest word is finite, positive, and its rung is known within bounds. -/
theorem nearest_fin (mag : Nat) (place : Int) (h0 : mag ≠ 0) (lo : -1000 ≤ place + mag.log2) (hi : place + mag.log2 ≤ 1000) :
    ∃ rung, double.nearest false mag place = rung ∧ 2 ^ 52 ≤ rung ∧ (rung : Int) ≤ (place + mag.log2 + 1024) * 2 ^ 52 := by
  refine ⟨_, rfl, ?_⟩
  have hl : double.leastPlace = -1074 := by decide
  have hi' : double.infRung = 2047 * 2 ^ 52 := by decide
  have hb : double.binade = 2 ^ 52 := by decide
  have hf : double.fractionBits = 52 := rfl
  unfold Format.nearest
  rw [if_neg h0, hl, hi', hb, hf]
  dsimp only
  have hmax : max (place + (mag.log2 : Int) - ((52 : Nat) : Int)) (-1074) = place + mag.log2 - 52 := by omega
  rw [hmax]
  have hk : Toward.even.cut false (mag <<< (place - (place + (mag.log2 : Int) - 52)).toNat) (place + (mag.log2 : Int) - 52 - place).toNat ≤ 2 ^ 53 := by
    have h2 := Nat.lt_log2_self (n := mag)
    by_cases hs : mag.log2 ≤ 52
    · have e1 : (place - (place + (mag.log2 : Int) - 52)).toNat = 52 - mag.log2 := by omega
      have e2 : (place + (mag.log2 : Int) - 52 - place).toNat = 0 := by omega
      rw [e1, e2]
      refine cut_le _ _ _ ?_ (by omega)
      have := shl_lt (s := 52 - mag.log2) h2
      rw [Nat.pow_zero, Nat.div_one]
      rw [show mag.log2 + 1 + (52 - mag.log2) = 53 from by omega] at this
      exact this
    · have e1 : (place - (place + (mag.log2 : Int) - 52)).toNat = 0 := by omega
      have e2 : (place + (mag.log2 : Int) - 52 - place).toNat = mag.log2 - 52 := by omega
      rw [e1, e2, Nat.shiftLeft_zero]
      refine cut_le _ _ _ ?_ (by omega)
      rw [Nat.div_lt_iff_lt_mul (Nat.two_pow_pos _), ← Nat.pow_add]
      rw [show 53 + (mag.log2 - 52) = mag.log2 + 1 from by omega]; exact h2
  generalize Toward.even.cut false _ _ = kept at hk
  unfold Format.word
  simp only [Bool.false_eq_true, if_false]
  have ht : ((place + (mag.log2 : Int) - 52 - -1074).toNat : Int) = place + mag.log2 + 1022 := by omega
  generalize (place + (mag.log2 : Int) - 52 - -1074).toNat = t at ht
  have ht1 : 1 ≤ t := by omega
  have ht2 : t ≤ 2022 := by omega
  have hc : (t * 2 ^ 52 + kept : Nat) < 2047 * 2 ^ 52 := by omega
  rw [Nat.min_eq_left (by omega)]
  constructor <;> omega

/-- Such a word reads as a positive number with a bounded place. -/
theorem read_fin (rung : Nat) (e : Int) (lo : 2 ^ 52 ≤ rung) (hi : (rung : Int) ≤ (e + 1024) * 2 ^ 52) (he : e ≤ 1000) :
    ∃ m p, double.read rung = .number false m p ∧ m ≠ 0 ∧ m < 2 ^ 53 ∧ -1074 ≤ p ∧ p ≤ e - 51 := by
  have hl : double.leastPlace = -1074 := by decide
  have hi' : double.infRung = 2047 * 2 ^ 52 := by decide
  have hb : double.binade = 2 ^ 52 := by decide
  have hs : double.signWeight = 2 ^ 63 := by decide
  unfold Format.read
  rw [hl, hi', hb, hs]
  have e1 : rung / 2 ^ 63 = 0 := by omega
  have e2 : rung % 2 ^ 63 = rung := by omega
  dsimp only
  rw [e1, e2, if_neg (by omega), if_pos (by omega)]
  refine ⟨_, _, rfl, ?_, ?_, ?_, ?_⟩
  · omega
  · omega
  · omega
  · omega

theorem read_zero : double.read 0 = .number false 0 (-1074) := by decide
theorem read_one : double.read 4607182418800017408 = .number false (2 ^ 52) (-52) := by decide

theorem log2_int {n : Nat} (h : n < 2 ^ 63) (h0 : n ≠ 0) : n.log2 ≤ 62 := by
  have := (Nat.log2_lt h0).2 h
  omega

/-- The float of a whole number from 0 up reads as a number that is not negative. -/
theorem float_read (n : Nat) (h : n < 2 ^ 63) : ∃ m p, double.read (floatOfInt .f64 n) = .number false m p ∧ m < 2 ^ 53 ∧ -1074 ≤ p ∧ p ≤ 11 := by
  have hq : floatOfInt .f64 (n : Int) = double.nearest false n 0 := by
    unfold floatOfInt FloatKind.nearest FloatKind.encode FloatKind.format Format.write
    have : ¬ ((n : Int) < 0) := by omega
    simp [this]
  rw [hq]
  by_cases h0 : n = 0
  · subst h0
    refine ⟨0, -1074, by decide, by decide, by omega, by omega⟩
  · have hlog := log2_int h h0
    obtain ⟨r, hr, h1, h2⟩ := nearest_fin n 0 h0 (by omega) (by omega)
    obtain ⟨m, p, a, b, c, d, e⟩ := read_fin r (0 + n.log2) h1 h2 (by omega)
    exact ⟨m, p, by rw [hr]; exact a, c, d, by omega⟩

/-- One more than the float of a whole number: a word that reads as a positive number. -/
theorem below_read (n : Nat) (h : n < 2 ^ 63) : ∃ r m p, floatBits .add .f64 (floatOfInt .f64 n) 4607182418800017408 = some r ∧ double.read r = .number false m p ∧ m ≠ 0 := by
  obtain ⟨m, p, hm, hm1, hp1, hp2⟩ := float_read n h
  have hadd : floatBits .add .f64 (floatOfInt .f64 n) 4607182418800017408 = double.add (floatOfInt .f64 n) 4607182418800017408 := rfl
  rw [hadd]
  unfold Format.add
  rw [hm, read_one]
  unfold Datum.sum
  dsimp only
  rw [Option.map_some]
  unfold signed
  simp only [Bool.false_eq_true, if_false]
  have hbase : min p (-52) ≤ -52 := by omega
  have hbase2 : -1074 ≤ min p (-52) := by omega
  generalize hB : min p (-52) = base at hbase hbase2
  have hlo : 2 ^ 52 <<< (-52 - base).toNat = 2 ^ (-base).toNat := by
    rw [Nat.shiftLeft_eq, ← Nat.pow_add]
    congr 1; omega
  rw [hlo]
  have hhi : m <<< (p - base).toNat < 2 ^ (64 + (-base).toNat) := by
    have := shl_lt (s := (p - base).toNat) hm1
    refine Nat.lt_of_lt_of_le this (Nat.pow_le_pow_right (by omega) (by omega))
  generalize m <<< (p - base).toNat = a at hhi
  generalize hc : 2 ^ (-base).toNat = c at hhi
  have hc0 : 0 < c := by rw [← hc]; exact Nat.two_pow_pos _
  have hlt : a + c < 2 ^ (65 + (-base).toNat) := by
    have e1 : 2 ^ (64 + (-base).toNat) = 2 ^ 64 * c := by rw [Nat.pow_add, hc]
    have e2 : 2 ^ (65 + (-base).toNat) = 2 ^ 65 * c := by rw [Nat.pow_add, hc]
    rw [e2]; rw [e1] at hhi; omega
  have hge : 2 ^ (-base).toNat ≤ a + c := by rw [hc]; omega
  have hsum : ((a : Int) + (c : Int)) = ((a + c : Nat) : Int) := by omega
  rw [hsum]
  have hne : a + c ≠ 0 := by omega
  have hl1 : (-base).toNat ≤ (a + c).log2 := (Nat.le_log2 hne).2 hge
  have hl2 : (a + c).log2 < 65 + (-base).toNat := (Nat.log2_lt hne).2 hlt
  have hn0 : ¬ (((a + c : Nat) : Int) = 0) := by omega
  have hn1 : ¬ (((a + c : Nat) : Int) < 0) := by omega
  rw [if_neg hn0]
  have : decide (((a + c : Nat) : Int) < 0) = false := decide_eq_false hn1
  rw [this]
  unfold Format.write
  rw [Int.natAbs_natCast]
  obtain ⟨r, hr, h1, h2⟩ := nearest_fin (a + c) base hne (by omega) (by omega)
  obtain ⟨m', p', a', b', c', d', e'⟩ := read_fin r (base + (a + c).log2) h1 h2 (by omega)
  exact ⟨r, m', p', congrArg some hr, a', b'⟩

/-- The quotient of both is no NaN. -/
theorem score_some (s u : Nat) (hs : s < 2 ^ 63) (hu : u < 2 ^ 63) :
    ∃ b r, floatBits .add .f64 (floatOfInt .f64 u) 4607182418800017408 = some b ∧ floatBits .quo .f64 (floatOfInt .f64 s) b = some r := by
  obtain ⟨b, m, p, hb, hr, h0⟩ := below_read u hu
  obtain ⟨m1, p1, h1, _⟩ := float_read s hs
  refine ⟨b, ?_⟩
  have hq : floatBits .quo .f64 (floatOfInt .f64 s) b = double.div (floatOfInt .f64 s) b := rfl
  rw [hq]
  unfold Format.div
  rw [h1, hr]
  unfold Datum.quotient
  dsimp only
  rw [if_neg h0, Option.map_some]
  exact ⟨_, hb, rfl⟩

theorem score_ten : ∃ b, floatBits .add .f64 (floatOfInt .f64 3) 4607182418800017408 = some b ∧ floatBits .quo .f64 (floatOfInt .f64 10) b = some 4612811918334230528 := by
  refine ⟨4616189618054758400, by decide +kernel, by decide +kernel⟩
#print axioms score_some
#print axioms score_ten
end Go.Proofs.Ytgkdnnklcbacmaa.F
