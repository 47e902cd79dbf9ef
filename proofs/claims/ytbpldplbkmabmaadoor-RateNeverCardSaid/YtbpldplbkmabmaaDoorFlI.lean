/- Plain laws of Ticks and Seconds: rounding there and back. No program's run in this text. -/
import Derived.Test.YtbpldplbkmabmaaDoorRlP
import Derived.Test.YtbpldplbkmabmaaDoorRlF
namespace Go.Proofs.YtbpldplbkmabmaaDoor

/-- A normal rung's neighbours. -/
theorem rung_near {r : Nat} (h : 4503599627370496 < r) : ∃ u, 4503599627370496 * u ≤ V r ∧ V (r + 1) = V r + u ∧ V r ≤ V (r - 1) + u := by
  obtain ⟨E, k, rfl, hk, h'⟩ := rung_form r
  have hk2 : 4503599627370496 ≤ k := by omega
  have hV : V (E * 4503599627370496 + k) = k * 2 ^ E := V_at (by omega) (Or.inr hk2)
  refine ⟨2 ^ E, ?_, ?_, ?_⟩
  · rw [hV]; exact Nat.mul_le_mul_right _ hk2
  · rw [Nat.add_assoc, V_at (by omega) (Or.inr (by omega)), hV, Nat.succ_mul]
  · by_cases hkk : k = 4503599627370496
    · obtain ⟨D, rfl⟩ : ∃ D, E = D + 1 := ⟨E - 1, by omega⟩
      rw [hV, show (D + 1) * 4503599627370496 + k - 1 = D * 4503599627370496 + 9007199254740991 by omega, V_at (by omega) (Or.inr (by omega)), hkk, Nat.pow_succ]
      have := Nat.two_pow_pos D
      omega
    · rw [hV, show E * 4503599627370496 + k - 1 = E * 4503599627370496 + (k - 1) by omega, V_at (by omega) (Or.inr (by omega))]
      rw [← Nat.succ_mul, show (k - 1).succ = k by omega]
      exact Nat.le_refl _

/-- The nearest float's error, times below. -/
theorem near_error {p q r : Nat} (h : IsNear p q r) (hr : 4503599627370496 < r) : ∃ u, 4503599627370496 * u ≤ V r ∧ 2 * (V r * q) ≤ 2 * p + u * q ∧ 2 * p ≤ 2 * (V r * q) + u * q := by
  obtain ⟨u, h1, h2, h3⟩ := rung_near hr
  obtain ⟨g1, -⟩ := h.1 (r - 1) (by omega)
  have g2 := h.2.1
  refine ⟨u, h1, ?_, ?_⟩
  · have e : V r * q ≤ (V (r - 1) + u) * q := Nat.mul_le_mul_right _ h3
    rw [Nat.add_mul] at e g1
    omega
  · rw [h2, Nat.add_mul, Nat.add_mul] at g2
    omega

theorem div_of {a b q : Nat} (h1 : q * b ≤ a) (h2 : a < (q + 1) * b) : a / b = q ∧ a % b = a - q * b := by
  have hb : 0 < b := by
    rcases Nat.eq_zero_or_pos b with h | h
    · subst h; simp at h2
    · exact h
  have h3 : a / b = q := Nat.div_eq_of_lt_le h1 h2
  refine ⟨h3, ?_⟩
  have := Nat.div_add_mod a b
  rw [h3, Nat.mul_comm b q] at this
  omega

/-- What lies nearer to t than half is rounded to t. -/
theorem whole_near {a b t : Nat} (h1 : 2 * a < 2 * (t * b) + b) (h2 : 2 * (t * b) < 2 * a + b) : wholeN a b 2 = t := by
  by_cases h : t * b ≤ a
  · obtain ⟨e1, e2⟩ := div_of (q := t) h (by rw [Nat.succ_mul]; omega)
    unfold wholeN upN
    rw [e1, e2, decide_eq_false (show ¬ b < 2 * (a - t * b) by omega), decide_eq_false (show ¬ 2 * (a - t * b) = b by omega)]
    rfl
  · obtain ⟨s, rfl⟩ : ∃ s, t = s + 1 := ⟨t - 1, by
      rcases Nat.eq_zero_or_pos t with h' | h'
      · rw [h'] at h; simp at h
      · omega⟩
    have e : (s + 1) * b = s * b + b := Nat.succ_mul s b
    rw [e] at h h1 h2
    obtain ⟨e1, e2⟩ := div_of (a := a) (b := b) (q := s) (by omega) (by rw [e]; omega)
    unfold wholeN upN
    rw [e1, e2, decide_eq_true (show b < 2 * (a - s * b) by omega)]
    rfl

/-- Ticks of seconds, rounded to the nearest, are the ticks again. -/
theorem meets {t hz r : Nat} (h : RatNat t hz r) (ht : t < 1125899906842624) : tickN r hz 2 = t := by
  obtain ⟨hn, h1, h2⟩ := h
  obtain ⟨u, g1, g2, g3⟩ := near_error hn h1
  have hU := pw_pos 1074
  unfold tickN
  generalize pw 1074 = U at *
  have e1 : 4503599627370496 * u * hz ≤ V r * hz := Nat.mul_le_mul_right _ g1
  rw [Nat.mul_assoc] at e1
  have e2 : t * U ≤ 1125899906842623 * U := Nat.mul_le_mul_right _ (by omega)
  generalize u * hz = x at *
  generalize V r * hz = y at *
  exact whole_near (by omega) (by omega)
end Go.Proofs.YtbpldplbkmabmaaDoor
