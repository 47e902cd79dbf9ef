/- A quotient of whole numbers to the nearest float, by some 54 bits of it and whether there is more: the numbers. No program's run in this text. -/
import Derived.Test.YtbpldplbkmabmaaDoorFlG
namespace Go.Proofs.YtbpldplbkmabmaaDoor

/-- A rounded significand and a power make the nearest rung. -/
theorem near_build {p Y D n k E : Nat} (hY : 0 < Y) (hD : 0 < D) (hM : p * D = n * (Y * 2 ^ E))
    (c1 : 2 * k * D ≤ 2 * n + D) (c2 : 2 * k * D = 2 * n + D → k % 2 = 0) (c3 : 2 * n ≤ 2 * k * D + D) (c4 : 2 * n = 2 * k * D + D → k % 2 = 0)
    (hk1 : k ≤ 9007199254740992) (hk2 : 4503599627370496 ≤ k) (hlow : k = 4503599627370496 → 4503599627370496 * D ≤ n) : IsNear p Y (E * 4503599627370496 + k) := by
  have hX := Nat.two_pow_pos E
  have hV : V (E * 4503599627370496 + k) = k * 2 ^ E := V_at hk1 (Or.inr hk2)
  refine ⟨fun s hs => ?_, ?_⟩
  · by_cases hs' : 4503599627370496 < k
    · obtain ⟨j, hj⟩ : ∃ j, k = j + 1 := ⟨k - 1, by omega⟩
      have hVs : V s = j * 2 ^ E := by
        rw [show s = E * 4503599627370496 + j by omega]
        exact V_at (by omega) (by omega)
      rw [hVs, hV]
      rw [hj] at c1 c2 ⊢
      obtain ⟨g1, g2⟩ := scale_down hX hY hD hM c1 c2
      exact ⟨g1, fun he => by have := g2 he; omega⟩
    · have hkk : k = 4503599627370496 := by omega
      have hlt : V s < k * 2 ^ E := by rw [← hV]; exact V_lt (by omega)
      have hkn : k * D ≤ n := by rw [hkk]; exact hlow hkk
      have e1 : k * D * (Y * 2 ^ E) ≤ n * (Y * 2 ^ E) := Nat.mul_le_mul_right _ hkn
      have e2 : k * D * (Y * 2 ^ E) = k * 2 ^ E * Y * D := by
        rw [Nat.mul_assoc, Nat.mul_assoc, Nat.mul_assoc]
        congr 1
        rw [Nat.mul_comm D, Nat.mul_comm Y (2 ^ E), Nat.mul_assoc]
      have e3 : k * 2 ^ E * Y ≤ p := Nat.le_of_mul_le_mul_right (by omega : k * 2 ^ E * Y * D ≤ p * D) hD
      have e4 : (V s + V (E * 4503599627370496 + k)) * Y < (k * 2 ^ E + k * 2 ^ E) * Y := Nat.mul_lt_mul_of_pos_right (by omega) hY
      rw [Nat.add_mul (k * 2 ^ E)] at e4
      exact ⟨by omega, fun he => by omega⟩
  · have hVn : (k + 1) * 2 ^ E ≤ V (E * 4503599627370496 + k + 1) := by
      by_cases hkm : k = 9007199254740992
      · rw [show E * 4503599627370496 + k + 1 = (E + 1) * 4503599627370496 + 4503599627370497 by omega, V_at (by omega) (Or.inr (by omega)), hkm, Nat.pow_succ]
        omega
      · rw [show E * 4503599627370496 + k + 1 = E * 4503599627370496 + (k + 1) by omega, V_at (by omega) (by omega)]
        exact Nat.le_refl _
    have hS : (2 * k + 1) * 2 ^ E ≤ V (E * 4503599627370496 + k) + V (E * 4503599627370496 + k + 1) := by
      rw [hV, show 2 * k + 1 = k + (k + 1) by omega, Nat.add_mul]
      omega
    obtain ⟨g1, g2⟩ := scale_up hX hY hD hM c3 c4 hS (rfl : E = E)
    exact ⟨g1, fun he => by have := g2 he; omega⟩

/-- The last bit taken off, to the nearest. -/
def lastOff (y r : Nat) : Nat := if y % 2 = 1 ∧ (0 < r ∨ y / 2 % 2 = 1) then y / 2 + 1 else y / 2

theorem last_facts {n d y r : Nat} (hn : n = y * d + r) (hr : r < d) :
    2 * lastOff y r * (d * 2) ≤ 2 * n + d * 2 ∧ (2 * lastOff y r * (d * 2) = 2 * n + d * 2 → lastOff y r % 2 = 0) ∧ 2 * n ≤ 2 * lastOff y r * (d * 2) + d * 2 ∧ (2 * n = 2 * lastOff y r * (d * 2) + d * 2 → lastOff y r % 2 = 0) := by
  have e (k : Nat) : 2 * k * (d * 2) = 4 * (k * d) := by
    rw [Nat.mul_comm d 2, ← Nat.mul_assoc, Nat.mul_right_comm 2 k 2, Nat.mul_assoc]
  have e1 (k : Nat) : (k + 1) * d = k * d + d := Nat.succ_mul k d
  obtain ⟨m, hm⟩ : ∃ m, m = y / 2 := ⟨_, rfl⟩
  by_cases hb : y % 2 = 1
  · have hy : y * d = 2 * (m * d) + d := by
      rw [show y = 2 * m + 1 by omega, Nat.succ_mul, Nat.mul_assoc]
    unfold lastOff
    rw [← hm]
    by_cases hu : 0 < r ∨ m % 2 = 1
    · rw [if_pos ⟨hb, hu⟩, e, e1]
      generalize m * d = P at *
      exact ⟨by omega, fun h => by omega, by omega, fun h => by omega⟩
    · rw [if_neg (fun h => hu h.2), e]
      generalize m * d = P at *
      exact ⟨by omega, fun h => by omega, by omega, fun h => by omega⟩
  · have hy : y * d = 2 * (m * d) := by
      rw [show y = 2 * m by omega, Nat.mul_assoc]
    unfold lastOff
    rw [← hm, if_neg (fun h => hb h.1), e]
    generalize m * d = P at *
    exact ⟨by omega, fun h => by omega, by omega, fun h => by omega⟩

theorem near_last {p Y n d y r E : Nat} (hY : 0 < Y) (hd : 0 < d) (hM : p * d = n * (Y * 2 ^ E)) (hn : n = y * d + r) (hr : r < d) (h1 : 9007199254740992 ≤ y) (h2 : y < 18014398509481984) :
    IsNear p Y ((E + 1) * 4503599627370496 + lastOff y r) := by
  obtain ⟨c1, c2, c3, c4⟩ := last_facts hn hr
  refine near_build hY (by omega) ?_ c1 c2 c3 c4 ?_ ?_ ?_
  · rw [← Nat.mul_assoc, hM, Nat.pow_succ, ← Nat.mul_assoc Y, Nat.mul_assoc]
  · unfold lastOff; split <;> omega
  · unfold lastOff; split <;> omega
  · intro hk
    have hyy : y / 2 = 4503599627370496 := by
      unfold lastOff at hk
      split at hk <;> omega
    have : 4503599627370496 * 2 * d ≤ y * d := Nat.mul_le_mul_right d (by omega)
    rw [Nat.mul_assoc, Nat.mul_comm 2 d] at this
    omega

theorem quot54 {n d m k : Nat} (hd1 : 2 ^ k ≤ 2 * d) (hd2 : d < 2 ^ k) (hn1 : 2 ^ (m + k) ≤ 2 * n) (hn2 : n < 2 ^ (m + k)) (hm : m = 54) : 9007199254740992 ≤ n / d ∧ n / d < 36028797018963968 := by
  subst hm
  rw [Nat.pow_add] at hn1 hn2
  have h2 : (2 : Nat) ^ 54 = 18014398509481984 := by decide
  rw [h2] at hn1 hn2
  generalize 2 ^ k = K at *
  have hd : 0 < d := by omega
  rw [Nat.le_div_iff_mul_le hd, Nat.div_lt_iff_lt_mul hd]
  omega

theorem q54_up {na nb S : Nat} (ha : 0 < na) (hb : 0 < nb) (hS : bitLen na + S = 54 + bitLen nb) : 9007199254740992 ≤ na * 2 ^ S / nb ∧ na * 2 ^ S / nb < 36028797018963968 := by
  obtain ⟨a1, a2, -⟩ := bit_range ha
  obtain ⟨b1, b2, -⟩ := bit_range hb
  have n1 : 2 ^ (54 + bitLen nb) ≤ 2 * (na * 2 ^ S) := by
    rw [← hS, Nat.pow_add, ← Nat.mul_assoc]; exact Nat.mul_le_mul_right _ a1
  have n2 : na * 2 ^ S < 2 ^ (54 + bitLen nb) := by
    rw [← hS, Nat.pow_add]; exact Nat.mul_lt_mul_of_pos_right a2 (Nat.two_pow_pos _)
  exact quot54 (d := nb) b1 b2 n1 n2 rfl

theorem q54_down {na nb S : Nat} (ha : 0 < na) (hb : 0 < nb) (hS : bitLen na = 54 + bitLen nb + S) : 9007199254740992 ≤ na / (nb * 2 ^ S) ∧ na / (nb * 2 ^ S) < 36028797018963968 := by
  obtain ⟨a1, a2, -⟩ := bit_range ha
  obtain ⟨b1, b2, -⟩ := bit_range hb
  rw [hS, Nat.add_assoc] at a1 a2
  have d1 : 2 ^ (bitLen nb + S) ≤ 2 * (nb * 2 ^ S) := by rw [Nat.pow_add, ← Nat.mul_assoc]; exact Nat.mul_le_mul_right _ b1
  have d2 : nb * 2 ^ S < 2 ^ (bitLen nb + S) := by rw [Nat.pow_add]; exact Nat.mul_lt_mul_of_pos_right b2 (Nat.two_pow_pos _)
  exact quot54 d1 d2 a1 a2 rfl
end Go.Proofs.YtbpldplbkmabmaaDoor
