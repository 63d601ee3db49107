/- Lemmas on the whole numbers that a float64 holds. No program. -/
import Derived.Laws.ComplexArith
namespace Flo
open Ieee

/-- A number of the format stands for the integer n. -/
def Is (d : Datum) (n : Int) : Prop :=
  ∃ s m p, ∃ e q : Nat, d = .number s m p ∧ p + (q : Int) = (e : Int) ∧ m * 2 ^ e = n.natAbs * 2 ^ q ∧ (n ≠ 0 → s = decide (n < 0))

theorem log2_mul_pow (N k : Nat) (h : N ≠ 0) : (N * 2 ^ k).log2 = N.log2 + k := by
  have h2 : 0 < 2 ^ k := Nat.two_pow_pos k
  have hN : N * 2 ^ k ≠ 0 := Nat.mul_ne_zero h (by omega)
  rw [Nat.log2_eq_iff hN]
  have a := Nat.log2_self_le h
  have b := @Nat.lt_log2_self N
  constructor
  · rw [Nat.pow_add]; exact Nat.mul_le_mul_right _ a
  · rw [show N.log2 + k + 1 = (N.log2 + 1) + k by omega, Nat.pow_add]
    exact Nat.mul_lt_mul_of_pos_right b h2

/-- cut of something exact. -/
theorem cut_exact (way : Toward) (neg : Bool) (K d : Nat) : way.cut neg (K * 2 ^ d) d = K := by
  by_cases hK : K = 0
  · subst hK
    unfold Toward.cut
    simp only [Nat.zero_mul, Nat.zero_div, Nat.zero_mod, Nat.shiftLeft_eq, Nat.one_mul]
    have : 0 < 2 ^ min d (Nat.log2 0 + 2) := Nat.two_pow_pos _
    cases way <;> simp <;> omega
  · have hl := log2_mul_pow K d hK
    unfold Toward.cut
    have hm : min d ((K * 2 ^ d).log2 + 2) = d := by omega
    simp only [hm, Nat.shiftLeft_eq, Nat.one_mul]
    have hp : 0 < 2 ^ d := Nat.two_pow_pos d
    rw [Nat.mul_div_cancel _ hp, Nat.mul_mod_left]
    have h2 : ((2 ^ d : Nat) == 0) = false := by simp
    cases way <;> simp [h2]

theorem cut_zero (way : Toward) (neg : Bool) (m : Nat) : way.cut neg m 0 = m := by
  have := cut_exact way neg m 0
  simpa using this

theorem pow_cancel {a b e q : Nat} (h : a * 2 ^ e = b * 2 ^ q) (hq : e ≤ q) : a = b * 2 ^ (q - e) := by
  have : q = (q - e) + e := by omega
  rw [this, Nat.pow_add, ← Nat.mul_assoc] at h
  have hp : 0 < 2 ^ e := Nat.two_pow_pos e
  have := Nat.eq_of_mul_eq_mul_right hp h
  simpa using this

theorem read_word (neg : Bool) (r : Nat) (h1 : double.binade ≤ r) (h2 : r < double.infRung) :
    double.read (double.word neg r) = .number neg (double.binade + r % double.binade) (double.leastPlace + (r / double.binade - 1 : Nat)) := by
  have hs : double.infRung < double.signWeight := by decide
  unfold Format.read Format.word
  have hr : r < double.signWeight := by omega
  have e1 : (if neg then double.signWeight + r else r) % double.signWeight = r := by
    cases neg
    · exact Nat.mod_eq_of_lt hr
    · simp [Nat.mod_eq_of_lt hr]
  have e2 : ((if neg then double.signWeight + r else r) / double.signWeight % 2 == 1) = neg := by
    cases neg
    · simp [Nat.div_eq_of_lt hr]
    · have hp : 0 < double.signWeight := by omega
      simp [Nat.add_div_left r hp, Nat.div_eq_of_lt hr]
  simp only [e1, e2]
  rw [if_neg (by omega), if_pos h2]

theorem read_zero (neg : Bool) : double.read (double.word neg 0) = .number neg 0 double.leastPlace := by
  cases neg <;> decide

theorem infRung_eq : double.infRung = 2047 * double.binade := rfl

theorem word_of (neg : Bool) (L K : Nat) (hL : L ≤ 52) (h1 : double.binade ≤ K) (h2 : K < 2 * double.binade) :
    double.read (double.word neg (min ((L + 1022) * double.binade + K) double.infRung)) = .number neg K (double.leastPlace + (L + 1022 : Nat)) := by
  have hm : (L + 1022) * double.binade ≤ 1074 * double.binade := Nat.mul_le_mul_right _ (by omega)
  have hinf := infRung_eq
  have hpos : 0 < double.binade := Nat.two_pow_pos 52
  have hmin : min ((L + 1022) * double.binade + K) double.infRung = (L + 1022) * double.binade + K := by
    generalize double.binade = B at *
    omega
  rw [hmin, read_word neg _ (by omega) (by generalize double.binade = B at *; omega)]
  have e1 : ((L + 1022) * double.binade + K) / double.binade = L + 1022 + 1 := by
    rw [Nat.mul_comm, Nat.mul_add_div hpos]
    have : K / double.binade = 1 := by
      rw [Nat.div_eq_iff hpos]; generalize double.binade = B at *; omega
    omega
  have e2 : ((L + 1022) * double.binade + K) % double.binade = K - double.binade := by
    rw [Nat.mul_comm, Nat.mul_add_mod, Nat.mod_eq_sub_mod h1, Nat.mod_eq_of_lt (by omega)]
  rw [e1, e2]
  have e3 : double.binade + (K - double.binade) = K := by omega
  rw [e3]
  rfl

/-- A number that is a whole one, of 53 binary digits at most, is written as it is. -/
theorem read_nearest (neg : Bool) (mag : Nat) (place : Int) (N e q : Nat) (hp : place + (q : Int) = e) (hv : mag * 2 ^ e = N * 2 ^ q) (hN : N < 2 ^ 53) :
    ∃ m p, ∃ e' q' : Nat, double.read (double.nearest neg mag place) = .number neg m p ∧ p + (q' : Int) = e' ∧ m * 2 ^ e' = N * 2 ^ q' := by
  by_cases h0 : mag = 0
  · subst h0
    have hN0 : N = 0 := by
      have : 0 < 2 ^ q := Nat.two_pow_pos q
      rcases Nat.mul_eq_zero.1 (by simpa using hv.symm : N * 2 ^ q = 0) with h | h
      · exact h
      · omega
    subst hN0
    refine ⟨0, double.leastPlace, 0, 1074, ?_, by decide, by simp only [Nat.zero_mul]⟩
    unfold Format.nearest
    rw [if_pos rfl]
    exact read_zero neg
  · have hN0 : N ≠ 0 := by
      intro h; subst h
      have : 0 < 2 ^ e := Nat.two_pow_pos e
      rcases Nat.mul_eq_zero.1 (by simpa using hv : mag * 2 ^ e = 0) with h | h
      · exact h0 h
      · omega
    have l1 := log2_mul_pow mag e h0
    have l2 := log2_mul_pow N q hN0
    have hl : mag.log2 + e = N.log2 + q := by rw [← l1, ← l2, hv]
    have hN53 : N.log2 ≤ 52 := by
      have := (Nat.log2_lt hN0 (k := 53)).2 hN
      omega
    have hlp : double.leastPlace = -1074 := by decide
    have hfb : double.fractionBits = 52 := rfl
    -- what is kept is N * 2 ^ (52 - log2 N)
    let L := N.log2
    have hlast : max (place + mag.log2 - double.fractionBits) double.leastPlace = (L : Int) - 52 := by
      rw [hlp, hfb]; show _ = (N.log2 : Int) - 52; omega
    have hkept : Toward.even.cut neg (mag <<< (place - ((L : Int) - 52)).toNat) (((L : Int) - 52) - place).toNat = N * 2 ^ (52 - L) := by
      by_cases hc : ((L : Int) - 52) ≤ place
      · have e1 : (((L : Int) - 52) - place).toNat = 0 := by omega
        rw [e1, cut_zero, Nat.shiftLeft_eq]
        -- mag * 2^(place - L + 52) = N * 2^(52 - L)
        have hp2 : 0 < 2 ^ e := Nat.two_pow_pos e
        refine Nat.eq_of_mul_eq_mul_right (Nat.two_pow_pos (e)) ?_
        rw [Nat.mul_assoc, Nat.mul_comm (2 ^ _) (2 ^ e), ← Nat.mul_assoc, hv, Nat.mul_assoc, Nat.mul_assoc, ← Nat.pow_add, ← Nat.pow_add]
        congr 2
        omega
      · have e1 : (place - ((L : Int) - 52)).toNat = 0 := by omega
        rw [e1, Nat.shiftLeft_zero]
        have hm : mag = (N * 2 ^ (52 - L)) * 2 ^ (((L : Int) - 52) - place).toNat := by
          refine Nat.eq_of_mul_eq_mul_right (Nat.two_pow_pos (e)) ?_
          rw [hv, Nat.mul_assoc, Nat.mul_assoc, ← Nat.pow_add, ← Nat.pow_add]
          congr 2
          omega
        rw [hm, cut_exact]
    have hb1 : 2 ^ 52 ≤ N * 2 ^ (52 - L) := by
      have := Nat.log2_self_le hN0
      calc 2 ^ 52 = 2 ^ L * 2 ^ (52 - L) := by rw [← Nat.pow_add]; congr 1; omega
        _ ≤ N * 2 ^ (52 - L) := Nat.mul_le_mul_right _ this
    have hb2 : N * 2 ^ (52 - L) < 2 ^ 53 := by
      have := @Nat.lt_log2_self N
      calc N * 2 ^ (52 - L) < 2 ^ (L + 1) * 2 ^ (52 - L) := Nat.mul_lt_mul_of_pos_right this (Nat.two_pow_pos _)
        _ = 2 ^ 53 := by rw [← Nat.pow_add]; congr 1; omega
    have hb2' : N * 2 ^ (52 - L) < 2 * double.binade := hb2
    have hw := word_of neg L (N * 2 ^ (52 - L)) hN53 hb1 hb2'
    have hr : ((L : Int) - 52 - double.leastPlace).toNat = L + 1022 := by rw [hlp]; omega
    refine ⟨N * 2 ^ (52 - L), double.leastPlace + (L + 1022 : Nat), 0, 52 - L, ?_, ?_, ?_⟩
    · unfold Format.nearest
      rw [if_neg h0]
      simp only [hlast, hkept, hr]
      exact hw
    · rw [hlp]; omega
    · rw [Nat.pow_zero, Nat.mul_one]

theorem is_write (d : Datum) (n : Int) (h : Is d n) (hb : n.natAbs < 2 ^ 53) : Is (double.read (double.write d)) n := by
  obtain ⟨s, m, p, e, q, rfl, hp, hv, hs⟩ := h
  obtain ⟨m', p', e', q', hr, hp', hv'⟩ := read_nearest s m p n.natAbs e q hp hv hb
  exact ⟨s, m', p', e', q', hr, hp', hv', hs⟩

theorem is_int (n : Int) : Is (.number (n < 0) n.natAbs 0) n := ⟨_, _, _, 0, 0, rfl, by simp, by simp, fun _ => rfl⟩

theorem is_opposite {d : Datum} {n : Int} (h : Is d n) : Is d.opposite (-n) := by
  obtain ⟨s, m, p, e, q, rfl, hp, hv, hs⟩ := h
  refine ⟨!s, m, p, e, q, rfl, hp, by simpa using hv, fun hn => ?_⟩
  rw [hs (by omega)]
  by_cases h : n < 0 <;> simp [h] <;> omega

theorem is_product {a b : Datum} {x y : Int} (ha : Is a x) (hb : Is b y) : ∃ c, a.product b = some c ∧ Is c (x * y) := by
  obtain ⟨s, m, p, e, q, rfl, hp, hv, hs⟩ := ha
  obtain ⟨t, k, r, f, u, rfl, hr, hw, ht⟩ := hb
  refine ⟨_, rfl, _, _, _, e + f, q + u, rfl, by omega, ?_, ?_⟩
  · rw [Int.natAbs_mul, Nat.pow_add, Nat.pow_add]
    calc m * k * (2 ^ e * 2 ^ f) = (m * 2 ^ e) * (k * 2 ^ f) := by ac_rfl
      _ = (x.natAbs * 2 ^ q) * (y.natAbs * 2 ^ u) := by rw [hv, hw]
      _ = _ := by ac_rfl
  · intro hxy
    have hx : x ≠ 0 := fun h => hxy (by simp [h])
    have hy : y ≠ 0 := fun h => hxy (by simp [h])
    rw [hs hx, ht hy]
    rcases Int.lt_or_gt_of_ne hx with h1 | h1 <;> rcases Int.lt_or_gt_of_ne hy with h2 | h2
    · have := Int.mul_pos_of_neg_of_neg h1 h2
      simp [h1, h2]; omega
    · have := Int.mul_neg_of_neg_of_pos h1 h2
      have a : ¬ y < 0 := by omega
      simp [h1, a, this]
    · have := Int.mul_neg_of_pos_of_neg h1 h2
      have a : ¬ x < 0 := by omega
      simp [h2, a, this]
    · have := Int.mul_pos h1 h2
      have a1 : ¬ x < 0 := by omega
      have a2 : ¬ y < 0 := by omega
      have a3 : ¬ x * y < 0 := by omega
      simp [a1, a2, a3]

/-- The signed mantissa, put on a common place. -/
theorem signed_val {s : Bool} {m : Nat} {p : Int} {e q : Nat} {n : Int} (hp : p + (q : Int) = e) (hv : m * 2 ^ e = n.natAbs * 2 ^ q) (hs : n ≠ 0 → s = decide (n < 0)) (base : Int) (hb : base ≤ p) (E Q : Nat) (hE : base + (Q : Int) = E) :
    signed s m (p - base).toNat * 2 ^ E = n * 2 ^ Q := by
  have hpos : (m <<< (p - base).toNat) * 2 ^ E = n.natAbs * 2 ^ Q := by
    rw [Nat.shiftLeft_eq]
    refine Nat.eq_of_mul_eq_mul_right (Nat.two_pow_pos q) ?_
    calc m * 2 ^ (p - base).toNat * 2 ^ E * 2 ^ q = m * 2 ^ ((p - base).toNat + E + q) := by rw [Nat.pow_add, Nat.pow_add]; ac_rfl
      _ = m * 2 ^ (e + Q) := by congr 2; omega
      _ = (m * 2 ^ e) * 2 ^ Q := by rw [Nat.pow_add]; ac_rfl
      _ = n.natAbs * 2 ^ Q * 2 ^ q := by rw [hv]; ac_rfl
  by_cases hn : n = 0
  · subst hn
    have hm : m <<< (p - base).toNat = 0 := by
      have : 0 < 2 ^ E := Nat.two_pow_pos E
      rcases Nat.mul_eq_zero.1 (by simpa using hpos) with h | h
      · exact h
      · omega
    unfold signed
    rw [hm]; cases s <;> simp
  · have hs' := hs hn
    have hI : ((m <<< (p - base).toNat : Nat) : Int) * 2 ^ E = (n.natAbs : Int) * 2 ^ Q := by
      have := congrArg (Nat.cast (R := Int)) hpos
      simpa using this
    unfold signed
    by_cases h : n < 0
    · rw [hs', decide_eq_true h, if_pos rfl, Int.neg_mul, hI]
      have : (n.natAbs : Int) = -n := by omega
      rw [this]; simp [Int.neg_mul]
    · rw [hs', decide_eq_false h, if_neg (by simp), hI]
      have : (n.natAbs : Int) = n := by omega
      rw [this]

theorem pow_pos_int (k : Nat) : (0 : Int) < 2 ^ k := by exact_mod_cast Nat.two_pow_pos k

theorem is_sum {a b : Datum} {x y : Int} (ha : Is a x) (hb : Is b y) : ∃ c, a.sum b = some c ∧ Is c (x + y) := by
  obtain ⟨s, m, p, e, q, rfl, hp, hv, hs⟩ := ha
  obtain ⟨t, k, r, f, u, rfl, hr, hw, ht⟩ := hb
  have hbase : min p r + ((q + u : Nat) : Int) = ((min p r + (q + u)).toNat : Nat) := by omega
  have h1 := signed_val hp hv hs (min p r) (by omega) _ (q + u) hbase
  have h2 := signed_val hr hw ht (min p r) (by omega) _ (q + u) hbase
  have h3 : (signed s m (p - min p r).toNat + signed t k (r - min p r).toNat) * 2 ^ (min p r + (q + u)).toNat = (x + y) * 2 ^ (q + u) := by
    rw [Int.add_mul, h1, h2, Int.add_mul]
  generalize hT : signed s m (p - min p r).toNat + signed t k (r - min p r).toNat = T at h3
  have hE := pow_pos_int (min p r + (q + u)).toNat
  have hQ := pow_pos_int (q + u)
  refine ⟨_, rfl, _, _, _, (min p r + (q + u)).toNat, q + u, rfl, hbase, ?_, ?_⟩
  · have := congrArg Int.natAbs h3
    rw [Int.natAbs_mul, Int.natAbs_mul, Int.natAbs_pow, Int.natAbs_pow] at this
    simp only [hT]
    exact this
  · intro hxy
    simp only [hT]
    have hT0 : T ≠ 0 := by
      intro h; rw [h, Int.zero_mul] at h3
      rcases Int.mul_eq_zero.1 h3.symm with h | h
      · exact hxy h
      · omega
    rw [if_neg hT0]
    by_cases h : x + y < 0
    · have : T < 0 := by
        refine Classical.byContradiction fun hc => ?_
        have a1 : 0 ≤ T * 2 ^ (min p r + (q + u)).toNat := Int.mul_nonneg (by omega) (by omega)
        have a2 := Int.mul_neg_of_neg_of_pos h hQ
        omega
      simp [this, h]
    · have : ¬ T < 0 := by
        intro hc
        have a1 := Int.mul_neg_of_neg_of_pos hc hE
        have a2 : 0 ≤ (x + y) * 2 ^ (q + u) := Int.mul_nonneg (by omega) (by omega)
        omega
      simp [this, h]

theorem is_order {a b : Datum} {x y : Int} (ha : Is a x) (hb : Is b y) : a.order b = some (compare x y) := by
  obtain ⟨s, m, p, e, q, rfl, hp, hv, hs⟩ := ha
  obtain ⟨t, k, r, f, u, rfl, hr, hw, ht⟩ := hb
  have hbase : min p r + ((q + u : Nat) : Int) = ((min p r + (q + u)).toNat : Nat) := by omega
  have h1 := signed_val hp hv hs (min p r) (by omega) _ (q + u) hbase
  have h2 := signed_val hr hw ht (min p r) (by omega) _ (q + u) hbase
  unfold Datum.order
  simp only
  congr 1
  generalize signed s m (p - min p r).toNat = A at *
  generalize signed t k (r - min p r).toNat = B at *
  have hE := pow_pos_int (min p r + (q + u)).toNat
  have hQ := pow_pos_int (q + u)
  generalize (2 : Int) ^ (min p r + (q + u)).toNat = E at *
  generalize (2 : Int) ^ (q + u) = Q at *
  have key : ∀ {A B x y : Int}, A * E = x * Q → B * E = y * Q → A < B → x < y := by
    intro A B x y h1 h2 h
    have : A * E < B * E := Int.mul_lt_mul_of_pos_right h hE
    rw [h1, h2] at this
    exact Int.lt_of_mul_lt_mul_right this (by omega)
  rcases Int.lt_trichotomy A B with h | h | h
  · rw [Int.compare_eq_lt.2 h, Int.compare_eq_lt.2 (key h1 h2 h)]
  · subst h
    have : x * Q = y * Q := by rw [← h1, ← h2]
    have := Int.eq_of_mul_eq_mul_right (by omega) this
    subst this
    rw [Int.compare_eq_eq.2 rfl, Int.compare_eq_eq.2 rfl]
  · rw [Int.compare_eq_gt.2 h, Int.compare_eq_gt.2 (key h2 h1 h)]

theorem is_toInt {a : Datum} {x : Int} (ha : Is a x) : a.toInt .zero = some x := by
  obtain ⟨s, m, p, e, q, rfl, hp, hv, hs⟩ := ha
  unfold Datum.toInt Datum.integral
  simp only
  congr 1
  have hc : Toward.zero.cut s (m <<< p.toNat) (-p).toNat = x.natAbs := by
    by_cases h : 0 ≤ p
    · have e1 : (-p).toNat = 0 := by omega
      rw [e1, cut_zero, Nat.shiftLeft_eq]
      refine Nat.eq_of_mul_eq_mul_right (Nat.two_pow_pos q) ?_
      rw [← hv, Nat.mul_assoc, ← Nat.pow_add]
      congr 2; omega
    · have e1 : p.toNat = 0 := by omega
      rw [e1, Nat.shiftLeft_zero]
      have : m = x.natAbs * 2 ^ (-p).toNat := by
        refine Nat.eq_of_mul_eq_mul_right (Nat.two_pow_pos e) ?_
        rw [hv, Nat.mul_assoc, ← Nat.pow_add]
        congr 2; omega
      rw [this, cut_exact]
  rw [hc]
  unfold signed
  rw [Nat.shiftLeft_zero]
  by_cases hx : x = 0
  · subst hx; cases s <;> simp
  · rw [hs hx]
    by_cases h : x < 0
    · simp [h]; omega
    · simp [h]; omega
end Flo
namespace Go.Proofs.Ytendepongefklaa

/-- The bits b of a float64 stand for the whole number n. -/
def F (b : Nat) (n : Int) : Prop := Flo.Is (Ieee.double.read b) n
/-- n is not too great. -/
def Sm (n : Int) : Prop := n.natAbs < 2 ^ 52

theorem F_int {n : Int} (h : Sm n) : F (floatOfInt .f64 n) n := Flo.is_write _ _ (Flo.is_int n) (by unfold Sm at h; omega)

theorem F_mul {a b : Nat} {x y : Int} (ha : F a x) (hb : F b y) (h : Sm (x * y)) : ∃ r, floatBits .mul .f64 a b = some r ∧ F r (x * y) := by
  obtain ⟨c, hc, hi⟩ := Flo.is_product ha hb
  refine ⟨Ieee.double.write c, ?_, Flo.is_write _ _ hi (by unfold Sm at h; omega)⟩
  show Ieee.double.mul a b = _
  unfold Ieee.Format.mul; rw [hc]; rfl
theorem F_add {a b : Nat} {x y : Int} (ha : F a x) (hb : F b y) (h : Sm (x + y)) : ∃ r, floatBits .add .f64 a b = some r ∧ F r (x + y) := by
  obtain ⟨c, hc, hi⟩ := Flo.is_sum ha hb
  refine ⟨Ieee.double.write c, ?_, Flo.is_write _ _ hi (by unfold Sm at h; omega)⟩
  show Ieee.double.add a b = _
  unfold Ieee.Format.add; rw [hc]; rfl
theorem F_sub {a b : Nat} {x y : Int} (ha : F a x) (hb : F b y) (h : Sm (x - y)) : ∃ r, floatBits .sub .f64 a b = some r ∧ F r (x - y) := by
  obtain ⟨c, hc, hi⟩ := Flo.is_sum ha (Flo.is_opposite hb)
  refine ⟨Ieee.double.write c, ?_, ?_⟩
  · show Ieee.double.sub a b = _
    unfold Ieee.Format.sub; rw [hc]; rfl
  · rw [Int.sub_eq_add_neg]; exact Flo.is_write _ _ hi (by unfold Sm at h; omega)

theorem F_cmul {a b c d : Nat} {x y u v : Int} (ha : F a x) (hb : F b y) (hc : F c u) (hd : F d v) (h1 : Sm (x * u)) (h2 : Sm (y * v)) (h3 : Sm (x * v)) (h4 : Sm (y * u)) (h5 : Sm (x * u - y * v)) (h6 : Sm (x * v + y * u)) :
    ∃ r s, cMulBits a b c d = some (r, s) ∧ F r (x * u - y * v) ∧ F s (x * v + y * u) := by
  obtain ⟨p1, e1, f1⟩ := F_mul ha hc h1
  obtain ⟨p2, e2, f2⟩ := F_mul hb hd h2
  obtain ⟨p3, e3, f3⟩ := F_mul ha hd h3
  obtain ⟨p4, e4, f4⟩ := F_mul hb hc h4
  obtain ⟨p5, e5, f5⟩ := F_sub f1 f2 h5
  obtain ⟨p6, e6, f6⟩ := F_add f3 f4 h6
  exact ⟨p5, p6, by simp [cMulBits, e1, e2, e3, e4, e5, e6], f5, f6⟩
theorem F_cadd {a b c d : Nat} {x y u v : Int} (ha : F a x) (hb : F b y) (hc : F c u) (hd : F d v) (h1 : Sm (x + u)) (h2 : Sm (y + v)) :
    ∃ r s, cSumBits .add .f64 a b c d = some (r, s) ∧ F r (x + u) ∧ F s (y + v) := by
  obtain ⟨p1, e1, f1⟩ := F_add ha hc h1
  obtain ⟨p2, e2, f2⟩ := F_add hb hd h2
  exact ⟨p1, p2, by simp [cSumBits, e1, e2], f1, f2⟩

theorem F_order {a b : Nat} {x y : Int} (ha : F a x) (hb : F b y) : FloatKind.f64.format.order a b = some (compare x y) := Flo.is_order ha hb
theorem F_toInt {a : Nat} {x : Int} (ha : F a x) (h : Sm x) : floatToIntVal .f64 a .i64 = some x := by
  unfold floatToIntVal
  have : (FloatKind.f64.decode a).toInt .zero = some x := Flo.is_toInt ha
  rw [this]
  have hb : IntKind.i64.min ≤ x ∧ x ≤ IntKind.i64.max := by
    unfold Sm at h
    have e1 : IntKind.i64.min = -9223372036854775808 := by decide
    have e2 : IntKind.i64.max = 9223372036854775807 := by decide
    rw [e1, e2]; omega
  show (if _ then _ else _) = _
  rw [if_pos hb]
theorem F_zero : F 0 0 := by
  refine ⟨false, 0, _, 0, 1074, (by decide : Ieee.double.read 0 = .number false 0 (-1074)), by decide, by simp only [Nat.zero_mul, Int.natAbs_zero], by simp⟩
theorem F_one : F 4607182418800017408 1 := by
  refine ⟨false, 4503599627370496, -52, 0, 52, (by decide : Ieee.double.read 4607182418800017408 = .number false 4503599627370496 (-52)), by decide, by decide, by simp⟩
theorem F_negone : F 13830554455654793216 (-1) := by
  refine ⟨true, 4503599627370496, -52, 0, 52, (by decide : Ieee.double.read 13830554455654793216 = .number true 4503599627370496 (-52)), by decide, by decide, by simp⟩

theorem flip_bit (b k : Nat) : (b ^^^ 2 ^ k) % 2 ^ k = b % 2 ^ k ∧ ((b ^^^ 2 ^ k) / 2 ^ k % 2 == 1) = !(b / 2 ^ k % 2 == 1) := by
  constructor
  · rw [Nat.xor_mod_two_pow, Nat.mod_self, Nat.xor_zero]
  · rw [Nat.xor_div_two_pow, Nat.div_self (Nat.two_pow_pos k)]
    have := Nat.xor_mod_two_pow (a := b / 2 ^ k) (b := 1) (n := 1)
    rw [Nat.pow_one] at this
    rw [this]
    rcases Nat.mod_two_eq_zero_or_one (b / 2 ^ k) with h | h <;> rw [h] <;> decide
theorem F_neg {b : Nat} {n : Int} (h : F b n) : F (Op.negFloat .f64 b) (-n) := by
  have e : Op.negFloat .f64 b = b ^^^ 2 ^ 63 := rfl
  have hr : Ieee.double.read (Op.negFloat .f64 b) = (Ieee.double.read b).opposite := by
    rw [e]
    have h1 := (flip_bit b 63).1
    have h2 := (flip_bit b 63).2
    have hs : Ieee.double.signWeight = 2 ^ 63 := rfl
    unfold Ieee.Format.read
    rw [hs, h1, h2]
    dsimp only
    generalize b % 2 ^ 63 = r
    generalize (b / 2 ^ 63 % 2 == 1) = s
    split
    · rfl
    · split
      · rfl
      · split <;> rfl
  unfold F
  rw [hr]
  exact Flo.is_opposite h
end Go.Proofs.Ytendepongefklaa
