/- A quotient of whole numbers to the nearest float: the numbers. No program's run in this text. -/
import Derived.Test.YtbpldplbkmabmaaDoorFlF
import Derived.Test.YtbpldplbkmabmaaDoorNatB
namespace Go.Proofs.YtbpldplbkmabmaaDoor

theorem two61 : (2 : Nat) ^ 61 = 2305843009213693952 := by decide
theorem two63 : (2 : Nat) ^ 63 = 9223372036854775808 := by decide

/-- The quotient has 62 or 63 bits. -/
theorem quot_bits {n d m k : Nat} (hd1 : 2 ^ k ≤ 2 * d) (hd2 : d < 2 ^ k) (hn1 : 2 ^ (m + k) ≤ 2 * n) (hn2 : n < 2 ^ (m + k)) (hm : m = 62) : 2305843009213693952 ≤ n / d ∧ n / d < 9223372036854775808 := by
  subst hm
  rw [Nat.pow_add] at hn1 hn2
  have h2 : (2 : Nat) ^ 62 = 4611686018427387904 := by decide
  rw [h2] at hn1 hn2
  generalize 2 ^ k = K at *
  have hd : 0 < d := by omega
  rw [Nat.le_div_iff_mul_le hd, Nat.div_lt_iff_lt_mul hd]
  omega

theorem near_between {t k R : Nat} (h1 : 2305843009213693952 ≤ t) (h2 : t ≤ 9223372036854775808) (h : IsNear (t * 2 ^ k) 1 R) : (k + 10) * 4503599627370496 ≤ R ∧ R ≤ (k + 12) * 4503599627370496 := by
  have e1 : V ((k + 9) * 4503599627370496 + 4503599627370496) * 1 = 2305843009213693952 * 2 ^ k := by
    rw [V_at (by omega) (Or.inr (by omega)), Nat.pow_add, Nat.mul_comm (2 ^ k), ← Nat.mul_assoc, Nat.mul_one]
  have e2 : V ((k + 11) * 4503599627370496 + 4503599627370496) * 1 = 9223372036854775808 * 2 ^ k := by
    rw [V_at (by omega) (Or.inr (by omega)), Nat.pow_add, Nat.mul_comm (2 ^ k), ← Nat.mul_assoc, Nat.mul_one]
  have m1 := near_mono (by decide) (by decide) (near_exact (q := 1) (by decide) e1) h (Nat.mul_le_mul_right 1 (Nat.mul_le_mul_right (2 ^ k) h1))
  have m2 := near_mono (by decide) (by decide) h (near_exact (q := 1) (by decide) e2) (Nat.mul_le_mul_right 1 (Nat.mul_le_mul_right (2 ^ k) h2))
  omega

/-- Shifted up before the division, down behind it. -/
theorem ratio_up {na nb S k R : Nat} (hb : 0 < nb) (hR1 : (k + 10) * 4503599627370496 ≤ R) (hS : S + 5 ≤ k) (h : IsNear (stick (na * 2 ^ S) nb * 2 ^ k) 1 R) :
    IsNear (na * 2 ^ k) nb (R - S * 4503599627370496) ∧ V (R - S * 4503599627370496) * 2 ^ (S + 2) = V R * 2 ^ 2 := by
  have h1 := near_stick hb (by omega) h
  obtain ⟨r, rfl⟩ : ∃ r, R = r + S * 4503599627370496 := ⟨R - S * 4503599627370496, by omega⟩
  rw [Nat.add_sub_cancel]
  have hr : 4503599627370496 < r := by omega
  refine ⟨?_, ?_⟩
  · rw [show na * 2 ^ S * 2 ^ k = na * 2 ^ k * 2 ^ S by rw [Nat.mul_assoc, Nat.mul_comm (2 ^ S), ← Nat.mul_assoc]] at h1
    exact (near_scale (2 ^ S) (Nat.two_pow_pos S)).1 ((near_shift S hr).2 h1)
  · rw [V_shift (by omega), Nat.pow_add, Nat.mul_assoc]

theorem ratio_down {na nb k R : Nat} (hb : 0 < nb) (hR1 : (k + 10) * 4503599627370496 ≤ R) (h : IsNear (stick na (nb * 2 ^ 1) * 2 ^ k) 1 R) :
    IsNear (na * 2 ^ k) nb (R + 1 * 4503599627370496) ∧ V (R + 1 * 4503599627370496) * 2 ^ 1 = V R * 2 ^ 2 := by
  have h1 := near_stick (Nat.mul_pos hb (by decide)) (by omega) h
  refine ⟨(near_shift 1 (by omega)).1 h1, ?_⟩
  rw [V_shift (by omega), Nat.mul_assoc]

theorem bit_range {n : Nat} (h0 : 0 < n) : 2 ^ bitLen n ≤ 2 * n ∧ n < 2 ^ bitLen n ∧ 0 < bitLen n := by
  obtain ⟨h1, h2⟩ := bitLen_spec n
  have h3 := h2 (by omega)
  have hp : 0 < bitLen n := by
    rcases Nat.eq_zero_or_pos (bitLen n) with h | h
    · rw [h] at h1; simp at h1; omega
    · exact h
  refine ⟨?_, h1, hp⟩
  rw [show bitLen n = bitLen n - 1 + 1 by omega, Nat.pow_succ]
  omega

theorem bit_le {n : Nat} (h : n ≤ 9223372036854775808) : bitLen n ≤ 64 := bitLen_lt (n := n) (m := 64) (by rw [show (2 : Nat) ^ 64 = 18446744073709551616 from by decide]; omega)

/-- The division's numbers, the dividend shifted. -/
theorem quot_up {na nb S : Nat} (ha : 0 < na) (hb : 0 < nb) (hS : bitLen na + S = 62 + bitLen nb) : 2305843009213693952 ≤ na * 2 ^ S / nb ∧ na * 2 ^ S / nb < 9223372036854775808 ∧ bitLen (na * 2 ^ S) ≤ bitLen nb + 63 := by
  obtain ⟨a1, a2, -⟩ := bit_range ha
  obtain ⟨b1, b2, -⟩ := bit_range hb
  have n1 : 2 ^ (62 + bitLen nb) ≤ 2 * (na * 2 ^ S) := by
    rw [← hS, Nat.pow_add, ← Nat.mul_assoc]; exact Nat.mul_le_mul_right _ a1
  have n2 : na * 2 ^ S < 2 ^ (62 + bitLen nb) := by
    rw [← hS, Nat.pow_add]; exact Nat.mul_lt_mul_of_pos_right a2 (Nat.two_pow_pos _)
  obtain ⟨q1, q2⟩ := quot_bits (d := nb) b1 b2 n1 n2 rfl
  have := bitLen_lt n2
  exact ⟨q1, q2, by omega⟩

theorem quot_down {na nb : Nat} (ha : 0 < na) (hb : 0 < nb) (hS : bitLen na = 63 + bitLen nb) : 2305843009213693952 ≤ na / (nb * 2 ^ 1) ∧ na / (nb * 2 ^ 1) < 9223372036854775808 ∧ bitLen na ≤ bitLen (nb * 2 ^ 1) + 63 := by
  obtain ⟨a1, a2, -⟩ := bit_range ha
  obtain ⟨b1, b2, -⟩ := bit_range hb
  rw [hS, show 63 + bitLen nb = 62 + (bitLen nb + 1) by omega] at a1 a2
  have d1 : 2 ^ (bitLen nb + 1) ≤ 2 * (nb * 2 ^ 1) := by rw [Nat.pow_succ]; omega
  have d2 : nb * 2 ^ 1 < 2 ^ (bitLen nb + 1) := by rw [Nat.pow_succ]; omega
  obtain ⟨q1, q2⟩ := quot_bits d1 d2 a1 a2 rfl
  refine ⟨q1, q2, ?_⟩
  have h1 := bit_range (n := nb * 2 ^ 1) (by omega)
  refine Nat.le_of_not_lt fun hlt => ?_
  have h2 : (2 : Nat) ^ (bitLen (nb * 2 ^ 1)) ≤ 2 ^ (bitLen nb - 1) := Nat.pow_le_pow_right (by decide) (by omega)
  have h3 := (bitLen_spec nb).2 (by omega)
  omega

theorem stick_le63 {n d : Nat} (h1 : 2305843009213693952 ≤ n / d) (h2 : n / d < 9223372036854775808) : 2305843009213693952 ≤ stick n d ∧ stick n d < 9223372036854775808 := by
  unfold stick
  split <;> omega

/-- The sticky bit as the program lays it. -/
theorem or_one (q : Nat) : q ||| 1 = if q % 2 = 0 then q + 1 else q := by
  by_cases h : q % 2 = 0
  · rw [if_pos h]
    exact nat_join 1 q 1 (by simpa using h) (by decide)
  · rw [if_neg h]
    have e : q = (q - 1) ||| 1 := by rw [nat_join 1 (q - 1) 1 (by simp; omega) (by decide)]; omega
    conv => lhs; rw [e]
    rw [Nat.or_assoc, Nat.or_self, ← e]
end Go.Proofs.YtbpldplbkmabmaaDoor
