/- Plain laws of sums and products that stop at the greatest tick; no program in sight. -/
import Derived.Test.YtdjiihcbaedmcaaTickC
namespace Go.Proofs.Ytdjiihcbaedmcaa

theorem tickB_clamp (n : Int) : tickB (clampI n) = true := tickB_mk (clampI_tick n).1 (clampI_tick n).2
theorem clampI_pos {n : Int} (h : 0 ≤ n) : clampI n = min n 4611686018427387903 := by unfold clampI; split <;> (try split) <;> omega

theorem sum_assoc (a b c : Int) (a0 : 0 ≤ a) (b0 : 0 ≤ b) (c0 : 0 ≤ c) : clampI (clampI (a + b) + c) = clampI (a + clampI (b + c)) := by
  unfold clampI; repeat' split
  all_goals omega

theorem mul_ge {a b : Int} (a1 : 1 ≤ a) (b0 : 0 ≤ b) : b ≤ a * b := by
  have := Int.mul_le_mul_of_nonneg_right a1 b0
  omega

theorem clamp_mul_clamp (n c : Int) (n0 : 0 ≤ n) (c0 : 0 ≤ c) : clampI (clampI n * c) = clampI (n * c) := by
  by_cases h : n ≤ 4611686018427387903
  · rw [clampI_id n0 h]
  · have e : clampI n = 4611686018427387903 := by rw [clampI_pos n0]; omega
    rw [e]
    by_cases hc : c = 0
    · subst hc; simp
    · have h1 := mul_ge (a := c) (b := 4611686018427387903) (by omega) (by omega)
      have h2 := mul_ge (a := c) (b := n) (by omega) (by omega)
      rw [Int.mul_comm 4611686018427387903 c, Int.mul_comm n c, clampI_pos (by omega), clampI_pos (by omega)]
      omega

theorem product_assoc (a b c : Int) (a0 : 0 ≤ a) (b0 : 0 ≤ b) (c0 : 0 ≤ c) : clampI (clampI (a * b) * c) = clampI (a * clampI (b * c)) := by
  rw [clamp_mul_clamp _ _ (Int.mul_nonneg a0 b0) c0, Int.mul_comm a (clampI (b * c)), clamp_mul_clamp _ _ (Int.mul_nonneg b0 c0) a0, Int.mul_comm (b * c) a, Int.mul_assoc]

theorem clamp_sum_clamp (m n : Int) (m0 : 0 ≤ m) (n0 : 0 ≤ n) : clampI (clampI m + clampI n) = clampI (m + n) := by
  unfold clampI; repeat' split
  all_goals omega

theorem product_sum (a b c : Int) (a0 : 0 ≤ a) (b0 : 0 ≤ b) (c0 : 0 ≤ c) : clampI (a * clampI (b + c)) = clampI (clampI (a * b) + clampI (a * c)) := by
  rw [clamp_sum_clamp _ _ (Int.mul_nonneg a0 b0) (Int.mul_nonneg a0 c0), Int.mul_comm a (clampI (b + c)), clamp_mul_clamp _ _ (by omega) a0, Int.mul_comm (b + c) a, Int.mul_add]

theorem mul_mono {a b c : Int} (h : a ≤ b) (c0 : 0 ≤ c) : a * c ≤ b * c := Int.mul_le_mul_of_nonneg_right h c0
theorem clampI_mono {m n : Int} (h : m ≤ n) : clampI m ≤ clampI n := by
  unfold clampI; repeat' split
  all_goals omega

/-- The quotient rounded up is the least whose product isn't below. -/
theorem ceil_law (a b : Int) (a0 : 0 ≤ a) (a1 : a ≤ 4611686018427387903) (b1 : 1 ≤ b) :
    0 ≤ ceilI a b ∧ ceilI a b ≤ 4611686018427387903 ∧ a ≤ clampI (ceilI a b * b) ∧ (0 < ceilI a b → clampI ((ceilI a b - 1) * b) < a) ∧ (ceilI a b = a / b ↔ a % b = 0) := by
  obtain ⟨q0, q1, r0, r1⟩ := div_tick a0 (b := b) (by omega)
  have e := Int.mul_ediv_add_emod a b
  unfold ceilI
  generalize a / b = q at *
  generalize a % b = r at *
  have e1 : q * b = a - r := by rw [Int.mul_comm]; omega
  have qb := Int.mul_nonneg q0 (show 0 ≤ b by omega)
  by_cases hr : 0 < r
  · rw [if_pos hr]
    have e2 : (q + 1) * b = a - r + b := by rw [Int.add_mul, e1]; omega
    have e3 : (q + 1 - 1) * b = a - r := by rw [show q + 1 - 1 = q by omega, e1]
    have hq : q < a := by
      by_cases hb : b = 1
      · omega
      · have := mul_ge (a := b - 1) (b := q) (by omega) q0
        have e4 : (b - 1) * q = a - r - q := by rw [Int.sub_mul, Int.mul_comm b q, e1]; omega
        omega
    rw [e2, e3]
    refine ⟨by omega, by omega, ?_, ?_, by omega⟩
    · rw [clampI_pos (by omega)]; omega
    · intro _; rw [clampI_pos (by omega)]; omega
  · rw [if_neg hr]
    have hr0 : r = 0 := by omega
    subst hr0
    have e3 : (q - 1) * b = a - b := by rw [Int.sub_mul, e1]; omega
    rw [e1, e3]
    refine ⟨by omega, by omega, ?_, ?_, by omega⟩
    · rw [clampI_pos (by omega)]; omega
    · intro hq
      have : 0 < a := by omega
      unfold clampI
      repeat' split
      all_goals omega
end Go.Proofs.Ytdjiihcbaedmcaa
