/- Plain laws of whole floats. No program's run in this text. -/
import Derived.Test.YtbpldplbkmabmaaDoorFlK
import Derived.Test.YtbpldplbkmabmaaDoorFlI
namespace Go.Proofs.YtbpldplbkmabmaaDoor

theorem whole_rung {o : Nat} (h0 : 0 < o) (h1 : o < 9007199254740992) : ∃ R, V R = o * pw 1074 ∧ 4503599627370496 < R ∧ R < 9218868437227405312 := by
  have hl : o.log2 ≤ 52 := by
    refine Nat.le_of_lt_succ ((Nat.log2_lt (by omega)).2 ?_)
    exact h1
  have a1 : 2 ^ o.log2 ≤ o := Nat.log2_self_le (by omega)
  have a2 : o < 2 ^ (o.log2 + 1) := Nat.lt_log2_self
  generalize o.log2 = L at *
  have b1 : 2 ^ L * 2 ^ (52 - L) ≤ o * 2 ^ (52 - L) := Nat.mul_le_mul_right _ a1
  have b2 : o * 2 ^ (52 - L) < 2 ^ (L + 1) * 2 ^ (52 - L) := Nat.mul_lt_mul_of_pos_right a2 (Nat.two_pow_pos _)
  rw [← Nat.pow_add] at b1 b2
  rw [show L + (52 - L) = 52 by omega] at b1
  rw [show L + 1 + (52 - L) = 53 by omega] at b2
  obtain ⟨K, hK⟩ : ∃ K, K = 1074 := ⟨_, rfl⟩
  rw [← hK]
  refine ⟨(K - (52 - L)) * 4503599627370496 + o * 2 ^ (52 - L), ?_, by omega, by omega⟩
  rw [V_at (by omega) (Or.inr (by omega)), Nat.mul_assoc, ← Nat.pow_add, show 52 - L + (K - (52 - L)) = K by omega]
  rfl

theorem whole_near_is {o R k : Nat} (hk : k = 1074) (h0 : 0 < o) (h : V R = o * pw k) (h1 : R < 9218868437227405312) : floatOfInt .f64 (o : Int) = R := by
  obtain ⟨r, hr, he⟩ := nearest_is false o k 0 (by omega)
  have e1 : floatOfInt .f64 (o : Int) = Ieee.double.nearest (decide ((o : Int) < 0)) (o : Int).natAbs 0 := rfl
  rw [e1, decide_eq_false (by omega), Int.natAbs_natCast]
  rw [show (k : Int) - ((0 : Nat) : Int) - 1074 = 0 by omega] at he
  have hr' : r = R := near_of_exact (by decide) hr (by rw [h]; unfold pw; exact Nat.mul_one _)
  subst hr'
  rw [he, word_mkW, show min r 9218868437227405312 = r by omega]
  rfl

theorem whole_float {o : Nat} (h1 : o < 9007199254740992) : ∃ R, floatOfInt .f64 (o : Int) = R ∧ V R = o * pw 1074 ∧ R < 9218868437227405312 ∧ (0 < o → 4503599627370496 < R) := by
  by_cases h0 : o = 0
  · subst h0
    exact ⟨0, by decide, by rw [Nat.zero_mul]; rfl, by decide, fun h => by omega⟩
  · obtain ⟨R, e, g1, g2⟩ := whole_rung (by omega) h1
    exact ⟨R, whole_near_is rfl (by omega) e g2, e, g2, fun _ => g1⟩

theorem tick_whole {n x : Nat} (h : V x = n * pw 1074) : tickN x 1 2 = n := by
  have hU := pw_pos 1074
  unfold tickN
  rw [h, Nat.mul_one]
  unfold wholeN upN
  rw [Nat.mul_div_cancel _ hU, Nat.mul_mod_left, decide_eq_false (show ¬ pw 1074 < 2 * 0 by omega), decide_eq_false (show ¬ 2 * 0 = pw 1074 by omega)]
  rfl

/-- A whole number of ticks that a float64 holds, of one tick a second. -/
theorem one_hz {n : Nat} (h : n < 9007199254740992) : ∃ x, floatOfInt .f64 (n : Int) = x ∧ SecW n 1 x 0 ∧ x < 9218868437227405312 ∧ tickN x 1 2 = n := by
  obtain ⟨R, e, hV, h1, h2⟩ := whole_float h
  refine ⟨R, e, ?_, h1, tick_whole hV⟩
  have hB : secB (n : Int) 1 = true := by
    cases hh : secB (n : Int) 1 with
    | true => rfl
    | false => have := secB_no hh; omega
  by_cases h0 : n = 0
  · subst h0
    have : R = 0 := by
      refine V_inj ?_
      rw [hV, Nat.zero_mul]; rfl
    exact Or.inr (Or.inl ⟨hB, rfl, this, rfl⟩)
  · refine Or.inr (Or.inr ⟨hB, by omega, rfl, ?_, h2 (by omega), h1⟩)
    rw [Int.natAbs_natCast]
    exact near_exact (by decide) (by rw [hV]; exact Nat.mul_one _)

/-- The power makes the number again. -/
theorem ldexp_back {o t r R q K : Nat} (hR : V R = o * pw K) (ho : o * 2 ^ t = V r) (h : IsNear (V R * 2 ^ t) (2 ^ K) q) : q = r := by
  refine near_of_exact (pw_pos K) h ?_
  show V r * pw K = V R * 2 ^ t
  rw [← ho, hR, Nat.mul_assoc, Nat.mul_assoc, Nat.mul_comm (2 ^ t)]
end Go.Proofs.YtbpldplbkmabmaaDoor
