/- Plain laws of bursts; Of's contract by its cases. -/
import Derived.Test.YtbpldplbkmabmaaDoorRtC
import Derived.Test.YtbpldplbkmabmaaDoorFlM
namespace Go.Proofs.YtbpldplbkmabmaaDoor
open Go.RowKit
set_option linter.unusedVariables false

theorem V_bin (E : Nat) : V (E * 4503599627370496 + 4503599627370496) = pw (52 + E) := by
  rw [V_at (by decide) (Or.inr (by decide))]
  have e : (4503599627370496 : Nat) = 2 ^ 52 := by decide
  unfold pw
  rw [e, ← Nat.pow_add]

theorem V_half : V 4602678819172646912 = pw 1073 := by
  have h := V_bin 1021
  rw [show 1021 * 4503599627370496 + 4503599627370496 = 4602678819172646912 from by decide, show 52 + 1021 = 1073 from by decide] at h
  exact h

theorem pw_succ (k : Nat) : pw (k + 1) = 2 * pw k := by unfold pw; rw [Nat.pow_succ]; omega
theorem pw_half : pw 1074 = 2 * pw 1073 := pw_succ 1073

/-- A whole number's float, and the one a half above. -/
theorem half_float {n : Nat} (h : n < 65536) : ∃ x y, floatOfInt .f64 (n : Int) = x ∧ floatBits .add .f64 x 4602678819172646912 = some y ∧ x < 9218868437227405312 ∧ y < 9218868437227405312 ∧ V x = n * pw 1074 ∧ V y = (2 * n + 1) * pw 1073 := by
  obtain ⟨x, e, hx, hxl, -⟩ := whole_float (show n < 9007199254740992 by omega)
  obtain ⟨R, hR, -, hRl⟩ := whole_rung' (o := 2 * n + 1) (K := 1073) (by omega) (by omega) (by decide) (by decide)
  have r1 := rg_pos (show x < 9223372036854775808 by omega)
  have r2 := rg_pos (show (4602678819172646912 : Nat) < 9223372036854775808 by decide)
  have s1 := sgn_pos (show x < 9223372036854775808 by omega)
  have s2 := sgn_pos (show (4602678819172646912 : Nat) < 9223372036854775808 by decide)
  obtain ⟨c, hc, hr⟩ := add_fin (a := x) (b := 4602678819172646912) (by omega) (by decide) (by rw [r1]; exact hxl) (by rw [r2]; decide)
  have hT : valW x + valW 4602678819172646912 = (((2 * n + 1) * pw 1073 : Nat) : Int) := by
    unfold valW
    rw [s1, s2, r1, r2, hx, V_half, pw_half]
    have : n * (2 * pw 1073) + pw 1073 = (2 * n + 1) * pw 1073 := by rw [Nat.add_mul, Nat.one_mul, ← Nat.mul_assoc, Nat.mul_comm n 2]
    rw [← this]
    rfl
  have hp : 0 < (2 * n + 1) * pw 1073 := Nat.mul_pos (by omega) (pw_pos _)
  rw [hT] at hr
  have hcR := roundW_exact (R := R) hr (by omega) (by rw [hR, Int.natAbs_natCast]) hRl
  rw [decide_eq_false (by omega)] at hcR
  have hcR' : c = R := hcR
  subst hcR'
  exact ⟨x, c, e, hc, hxl, hRl, hx, hR⟩

theorem rtC_same {p b b' : Nat} {hz : Int} (h1 : rg b < 9218868437227405312) (h2 : ¬ (sgn b = true ∧ 0 < rg b)) (h3 : rg b' < 9218868437227405312) (h4 : ¬ (sgn b' = true ∧ 0 < rg b')) : rtC p b hz = rtC p b' hz := by
  have a1 : ¬ 9218868437227405312 < rg b := by omega
  have a2 : ¬ 9218868437227405312 ≤ rg b := by omega
  have a3 : ¬ 9218868437227405312 < rg b' := by omega
  have a4 : ¬ 9218868437227405312 ≤ rg b' := by omega
  unfold rtC
  simp only [a1, a2, a3, a4, h2, h4, or_false]

theorem floor_whole (a b : Nat) : wholeN a b 0 = a / b := by
  unfold wholeN upN
  simp

theorem rtS_zero {p b : Nat} {hz : Int} (h : rg b = 0) : rtS p b hz = 0 := by
  unfold rtS
  rw [h, floor_whole, V_zero, Nat.zero_mul, Nat.zero_div]
theorem rtS_whole {p b n : Nat} {hz : Int} (h : V (rg b) = n * pw 1074) : rtS p b hz = n * rtT p hz := by
  unfold rtS
  rw [h, floor_whole, Nat.mul_right_comm, Nat.mul_div_cancel _ (pw_pos _)]
theorem rtS_half {p b n : Nat} {hz : Int} (h : V (rg b) = (2 * n + 1) * pw 1073) : rtS p b hz = n * rtT p hz + rtT p hz / 2 := by
  unfold rtS
  have hp := pw_pos 1073
  rw [h, floor_whole, pw_half, Nat.mul_right_comm, Nat.mul_div_mul_right _ _ hp, Nat.add_mul, Nat.one_mul, Nat.mul_assoc]
  generalize n * rtT p hz = q
  omega
/-- Of's answers, by the error C of the rate, the ticks U between two and the burst's ticks S. -/
def ofA (C U S : Nat) (x : Int) : Int := if C = 0 ∧ U ≤ 4611686018427387903 ∧ S ≤ 4611686018427387903 then x else 0
def ofE (C U S : Nat) : Int := if C ≠ 0 then (C : Int) else if U ≤ 4611686018427387903 ∧ S ≤ 4611686018427387903 then 0 else 5

theorem of_cases {p b : Nat} {hz : Int} {C U T S : Nat} (hp : p < 18446744073709551616) (hb : b < 18446744073709551616) (hC : rtC p b hz = C) (hU : rtU p hz = U) (hT : rtT p hz = T) (hS : rtS p b hz = S) :
    ∀ v, Tab v → Calls Tryd.prog 17 #[rateV p b hz] v (OfRes v (ofA C U S T) (ofA C U S S) (ofE C U S)) := fun v hv => by
  have h := of_any p b hz v hp hb hv
  by_cases c : C = 0
  · by_cases u : U ≤ 4611686018427387903
    · by_cases s : S ≤ 4611686018427387903
      · obtain ⟨e1, e2, e3⟩ := rt_some (p := p) (b := b) (hz := hz) (by rw [hC]; exact c) (by rw [hU]; exact u) (by rw [hS]; exact s)
        rw [e1, e2, e3, hT, hS] at h
        unfold ofA ofE
        rw [if_pos ⟨c, u, s⟩, if_pos ⟨c, u, s⟩, if_neg (fun h => h c), if_pos ⟨u, s⟩]
        exact h
      · obtain ⟨e1, e2, e3⟩ := rt_wide (p := p) (b := b) (hz := hz) (by rw [hC]; exact c) (by rw [hU]; exact u) (by rw [hS]; exact s)
        rw [e1, e2, e3] at h
        unfold ofA ofE
        rw [if_neg (fun h => s h.2.2), if_neg (fun h => s h.2.2), if_neg (fun h => h c), if_neg (fun h => s h.2)]
        exact h
    · obtain ⟨e1, e2, e3⟩ := rt_big (p := p) (b := b) (hz := hz) (by rw [hC]; exact c) (by rw [hU]; exact u)
      rw [e1, e2, e3] at h
      unfold ofA ofE
      rw [if_neg (fun h => u h.2.1), if_neg (fun h => u h.2.1), if_neg (fun h => h c), if_neg (fun h => u h.1)]
      exact h
  · obtain ⟨e1, e2, e3⟩ := rt_bad (p := p) (b := b) (hz := hz) (by rw [hC]; exact c)
    rw [e1, e2, e3, hC] at h
    unfold ofA ofE
    rw [if_neg (fun h => c h.1), if_neg (fun h => c h.1), if_pos c]
    exact h

theorem of_good' {p b : Nat} {hz : Int} {C U T S : Nat} {x : Int} (hx : x = (S : Int)) (c : C = 0) (u : U ≤ 4611686018427387903) (s : S ≤ 4611686018427387903) (h : ∀ v, Tab v → Calls Tryd.prog 17 #[rateV p b hz] v (OfRes v (ofA C U S T) (ofA C U S S) (ofE C U S))) :
    ∀ v, Tab v → Calls Tryd.prog 17 #[rateV p b hz] v (OfRes v T x 0) := by
  subst hx
  unfold ofA ofE at h
  rw [if_pos ⟨c, u, s⟩, if_pos ⟨c, u, s⟩, if_neg (fun h => h c), if_pos ⟨u, s⟩] at h
  exact h
theorem of_wide' {p b : Nat} {hz : Int} {C U T S : Nat} (c : C = 0) (s : ¬ (U ≤ 4611686018427387903 ∧ S ≤ 4611686018427387903)) (h : ∀ v, Tab v → Calls Tryd.prog 17 #[rateV p b hz] v (OfRes v (ofA C U S T) (ofA C U S S) (ofE C U S))) :
    ∀ v, Tab v → Calls Tryd.prog 17 #[rateV p b hz] v (OfRes v 0 0 5) := by
  unfold ofA ofE at h
  rw [if_neg (fun h => s h.2), if_neg (fun h => s h.2), if_neg (fun h => h c), if_neg s] at h
  exact h
theorem of_bad' {p b : Nat} {hz : Int} {C U T S : Nat} (c : ¬ C = 0) (h : ∀ v, Tab v → Calls Tryd.prog 17 #[rateV p b hz] v (OfRes v (ofA C U S T) (ofA C U S S) (ofE C U S))) :
    ∀ v, Tab v → Calls Tryd.prog 17 #[rateV p b hz] v (OfRes v 0 0 C) := by
  unfold ofA ofE at h
  rw [if_neg (fun h => c h.1), if_neg (fun h => c h.1), if_pos c] at h
  exact h

end Go.Proofs.YtbpldplbkmabmaaDoor
