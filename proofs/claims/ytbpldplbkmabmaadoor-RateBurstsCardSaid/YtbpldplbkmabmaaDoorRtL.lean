/- Plain laws of bursts. No program's run in this text. -/
import Derived.Test.YtbpldplbkmabmaaDoorRtJ
import Derived.Test.YtbpldplbkmabmaaDoorFlM
namespace Go.Proofs.YtbpldplbkmabmaaDoor

theorem V_bin (E : Nat) : V (E * 4503599627370496 + 4503599627370496) = pw (52 + E) := by
  rw [V_at (by decide) (Or.inr (by decide))]
  have e : (4503599627370496 : Nat) = 2 ^ 52 := by decide
  unfold pw
  rw [e, ← Nat.pow_add]

theorem V_half : V 4602678819172646912 = pw 1073 := by
  have h := V_bin 1021
  rw [show 1021 * 4503599627370496 + 4503599627370496 = 4602678819172646912 from by decide, show 52 + 1021 = 1073 from by decide] at h
  exact h

theorem pw_succ (k : Nat) : pw (k + 1) = 2 * pw k := by unfold pw; rw [Nat.pow_succ]; omega
theorem pw_half : pw 1074 = 2 * pw 1073 := pw_succ 1073

/-- A whole number's float, and the one a half above. -/
theorem half_float {n : Nat} (h : n < 65536) : ∃ x y, floatOfInt .f64 (n : Int) = x ∧ floatBits .add .f64 x 4602678819172646912 = some y ∧ x < 9218868437227405312 ∧ y < 9218868437227405312 ∧ V x = n * pw 1074 ∧ V y = (2 * n + 1) * pw 1073 := by
  obtain ⟨x, e, hx, hxl, -⟩ := whole_float (show n < 9007199254740992 by omega)
  obtain ⟨R, hR, -, hRl⟩ := whole_rung' (o := 2 * n + 1) (K := 1073) (by omega) (by omega) (by decide) (by decide)
  have r1 := rg_pos (show x < 9223372036854775808 by omega)
  have r2 := rg_pos (show (4602678819172646912 : Nat) < 9223372036854775808 by decide)
  have s1 := sgn_pos (show x < 9223372036854775808 by omega)
  have s2 := sgn_pos (show (4602678819172646912 : Nat) < 9223372036854775808 by decide)
  obtain ⟨c, hc, hr⟩ := add_fin (a := x) (b := 4602678819172646912) (by omega) (by decide) (by rw [r1]; exact hxl) (by rw [r2]; decide)
  have hT : valW x + valW 4602678819172646912 = (((2 * n + 1) * pw 1073 : Nat) : Int) := by
    unfold valW
    rw [s1, s2, r1, r2, hx, V_half, pw_half]
    have : n * (2 * pw 1073) + pw 1073 = (2 * n + 1) * pw 1073 := by rw [Nat.add_mul, Nat.one_mul, ← Nat.mul_assoc, Nat.mul_comm n 2]
    rw [← this]
    rfl
  have hp : 0 < (2 * n + 1) * pw 1073 := Nat.mul_pos (by omega) (pw_pos _)
  rw [hT] at hr
  have hcR := roundW_exact (R := R) hr (by omega) (by rw [hR, Int.natAbs_natCast]) hRl
  rw [decide_eq_false (by omega)] at hcR
  have hcR' : c = R := hcR
  subst hcR'
  exact ⟨x, c, e, hc, hxl, hRl, hx, hR⟩

theorem rtC_same {p b b' : Nat} {hz : Int} (h1 : rg b < 9218868437227405312) (h2 : ¬ (sgn b = true ∧ 0 < rg b)) (h3 : rg b' < 9218868437227405312) (h4 : ¬ (sgn b' = true ∧ 0 < rg b')) : rtC p b hz = rtC p b' hz := by
  have a1 : ¬ 9218868437227405312 < rg b := by omega
  have a2 : ¬ 9218868437227405312 ≤ rg b := by omega
  have a3 : ¬ 9218868437227405312 < rg b' := by omega
  have a4 : ¬ 9218868437227405312 ≤ rg b' := by omega
  unfold rtC
  simp only [a1, a2, a3, a4, h2, h4, or_false]

theorem floor_whole (a b : Nat) : wholeN a b 0 = a / b := by
  unfold wholeN upN
  simp

theorem rtS_zero {p b : Nat} {hz : Int} (h : rg b = 0) : rtS p b hz = 0 := by
  unfold rtS
  rw [h, floor_whole, V_zero, Nat.zero_mul, Nat.zero_div]
theorem rtS_whole {p b n : Nat} {hz : Int} (h : V (rg b) = n * pw 1074) : rtS p b hz = n * rtT p hz := by
  unfold rtS
  rw [h, floor_whole, Nat.mul_right_comm, Nat.mul_div_cancel _ (pw_pos _)]
theorem rtS_half {p b n : Nat} {hz : Int} (h : V (rg b) = (2 * n + 1) * pw 1073) : rtS p b hz = n * rtT p hz + rtT p hz / 2 := by
  unfold rtS
  have hp := pw_pos 1073
  rw [h, floor_whole, pw_half, Nat.mul_right_comm, Nat.mul_div_mul_right _ _ hp, Nat.add_mul, Nat.one_mul, Nat.mul_assoc]
  generalize n * rtT p hz = q
  omega
end Go.Proofs.YtbpldplbkmabmaaDoor
