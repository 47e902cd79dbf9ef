/- Plain laws of RateNever. No program's run in this text. -/
import Derived.Test.YtbpldplbkmabmaaDoorRtL
namespace Go.Proofs.YtbpldplbkmabmaaDoor

theorem whole_up {a b : Nat} (ha : 0 < a) (hb : 0 < b) : a ≤ wholeN a b 1 * b ∧ (wholeN a b 1 - 1) * b < a ∧ 1 ≤ wholeN a b 1 := by
  have h1 := Nat.div_add_mod a b
  have h2 := Nat.mod_lt a hb
  have e : wholeN a b 1 = a / b + (decide (0 < a % b)).toNat := by unfold wholeN upN; simp
  rw [e]
  rw [Nat.mul_comm b] at h1
  generalize a / b = q at *
  generalize a % b = r at *
  by_cases hr : 0 < r
  · rw [decide_eq_true hr]
    show a ≤ (q + 1) * b ∧ (q + 1 - 1) * b < a ∧ 1 ≤ q + 1
    rw [Nat.add_mul, Nat.one_mul, Nat.add_sub_cancel]
    exact ⟨by omega, by omega, by omega⟩
  · rw [decide_eq_false hr]
    show a ≤ q * b ∧ (q - 1) * b < a ∧ 1 ≤ q
    have hq : 1 ≤ q := by
      refine Nat.pos_of_ne_zero fun h => ?_
      rw [h, Nat.zero_mul] at h1
      omega
    obtain ⟨k, rfl⟩ : ∃ k, q = k + 1 := ⟨q - 1, by omega⟩
    rw [Nat.add_sub_cancel]
    rw [Nat.add_mul, Nat.one_mul] at h1 ⊢
    exact ⟨by omega, by omega, hq⟩

/-- The ticks between two, when a rate is right. -/
theorem rtT_facts {p : Nat} {hz : Int} (h0 : 0 < rg p) (h1 : 1 ≤ hz) : rtT p hz = rtU p hz ∧ 1 ≤ rtU p hz ∧ hz.toNat * pw 1074 ≤ rtU p hz * V (rg p) ∧ (rtU p hz - 1) * V (rg p) < hz.toNat * pw 1074 := by
  have hV : 0 < V (rg p) := by have := V_lt h0; omega
  have hp := pw_pos 1074
  obtain ⟨a, b, c⟩ := whole_up (a := pw 1074 * hz.toNat) (b := V (rg p)) (Nat.mul_pos hp (by omega)) hV
  have e : rtU p hz = wholeN (pw 1074 * hz.toNat) (V (rg p)) 1 := rfl
  rw [← e] at a b c
  rw [Nat.mul_comm (pw 1074)] at a b
  refine ⟨?_, c, a, b⟩
  unfold rtT
  generalize rtU p hz = U at *
  omega

/-- The rate that a limit truly has is at most the one that was told; with one tick less it would be at least that. -/
theorem never_rates {p T x : Nat} {h : Nat} (hT : 1 ≤ T) (hx : IsNear (h * pw 1074) T x) :
    (h * pw 1074 ≤ T * V p → x ≤ p) ∧ (T * V p < h * pw 1074 → p ≤ x) := by
  have he : IsNear (V p) 1 p := near_exact (by decide) (Nat.mul_one _)
  constructor
  · intro hle
    exact near_mono (by omega) (by decide) hx he (by rw [Nat.mul_one, Nat.mul_comm (V p)]; exact hle)
  · intro hle
    exact near_mono (by decide) (by omega) he hx (by rw [Nat.mul_one, Nat.mul_comm (V p)]; omega)

theorem V_two : V 4611686018427387904 = 2 * pw 1074 := by
  have h := V_bin 1023
  rw [show 1023 * 4503599627370496 + 4503599627370496 = 4611686018427387904 from by decide, show 52 + 1023 = 1074 + 1 from by decide, pw_succ] at h
  exact h

/-- Twice a float that isn't too great. -/
theorem twice_float {p : Nat} (h0 : 0 < p) (h : p < 9110782046170513408) : ∃ q, floatBits .mul .f64 4611686018427387904 p = some q ∧ 0 < q ∧ q < 9218868437227405312 ∧ V q = 2 * V p := by
  have r1 := rg_pos (show (4611686018427387904 : Nat) < 9223372036854775808 by decide)
  have r2 := rg_pos (show p < 9223372036854775808 by omega)
  have s1 := sgn_pos (show (4611686018427387904 : Nat) < 9223372036854775808 by decide)
  have s2 := sgn_pos (show p < 9223372036854775808 by omega)
  obtain ⟨c, r, hc, hn, rfl⟩ := mul_fin (a := 4611686018427387904) (b := p) (by decide) (by omega) (by rw [r1]; decide) (by rw [r2]; omega)
  have hR : ∃ R, V R = 2 * V p ∧ 0 < R ∧ R < 9218868437227405312 := by
    by_cases hs : p < 4503599627370496
    · refine ⟨2 * p, ?_, by omega, by omega⟩
      have e1 := V_at (E := 0) (k := 2 * p) (by omega) (Or.inl rfl)
      have e2 := V_at (E := 0) (k := p) (by omega) (Or.inl rfl)
      rw [Nat.zero_mul, Nat.zero_add, Nat.pow_zero, Nat.mul_one] at e1 e2
      rw [e1, e2]
    · refine ⟨p + 1 * 4503599627370496, ?_, by omega, by omega⟩
      rw [V_shift (by omega) 1, Nat.pow_one, Nat.mul_comm]
  obtain ⟨R, hV, hR0, hRl⟩ := hR
  rw [r1, r2, V_two] at hn
  have hrR : r = R := near_of_exact (pw_pos _) hn (by rw [hV, Nat.mul_right_comm])
  subst hrR
  rw [s1, s2, show min r 9218868437227405312 = r by omega] at hc
  exact ⟨r, hc, hR0, hRl, hV⟩

/-- Twice the rate: T is no greater, and at least half. -/
theorem never_twice {T m V0 H : Nat} (a1 : H ≤ T * V0) (a2 : (T - 1) * V0 < H) (hT : 1 ≤ T) (b1 : H ≤ m * (2 * V0)) (b2 : (m - 1) * (2 * V0) < H) (hm : 1 ≤ m) : m ≤ T ∧ T / 2 ≤ m := by
  constructor
  · have h : (m - 1) * 2 * V0 < T * V0 := by rw [Nat.mul_assoc]; omega
    have := Nat.lt_of_mul_lt_mul_right h
    omega
  · have h : (T - 1) * V0 < m * 2 * V0 := by rw [Nat.mul_assoc]; omega
    have := Nat.lt_of_mul_lt_mul_right h
    omega

theorem ord_pos {a b : Nat} (ha : a < 9218868437227405312) (hb : b < 9218868437227405312) : (FloatKind.f64.format.order a b == some .gt) = decide (b < a) ∧ (FloatKind.f64.format.order a b == some .lt) = decide (a < b) ∧ (FloatKind.f64.format.order a b == some .eq) = decide (a = b) := by
  have r1 := rg_pos (show a < 9223372036854775808 by omega)
  have r2 := rg_pos (show b < 9223372036854775808 by omega)
  have s1 := sgn_pos (show a < 9223372036854775808 by omega)
  have s2 := sgn_pos (show b < 9223372036854775808 by omega)
  have o1 : okW a = true := by unfold okW; rw [r1]; exact decide_eq_true (by omega)
  have o2 : okW b = true := by unfold okW; rw [r2]; exact decide_eq_true (by omega)
  have k1 : keyW a = (a : Int) := by unfold keyW; rw [s1, r1]; rfl
  have k2 : keyW b = (b : Int) := by unfold keyW; rw [s2, r2]; rfl
  refine ⟨?_, ?_, ?_⟩
  · rw [ord_gt (by omega) (by omega), o1, o2, k1, k2]; simp
  · rw [ord_lt (by omega) (by omega), o1, o2, k1, k2]; simp
  · rw [ord_eq (by omega) (by omega), o1, o2, k1, k2]; simp; omega
end Go.Proofs.YtbpldplbkmabmaaDoor
