/- Plain laws of Ticks: down, nearest and up are neighbours; a greater number has no fewer ticks. No program's run in this text. -/
import Derived.Test.YtbpldplbkmabmaaDoorFlI
namespace Go.Proofs.YtbpldplbkmabmaaDoor

theorem whole_three (a b : Nat) : wholeN a b 0 = a / b ∧ wholeN a b 0 ≤ wholeN a b 2 ∧ wholeN a b 2 ≤ wholeN a b 1 ∧ wholeN a b 1 ≤ wholeN a b 0 + 1 := by
  unfold wholeN upN
  have e0 : decide (0 = 1) = false := rfl
  have e1 : decide (0 = 2) = false := rfl
  have e2 : decide (2 = 1) = false := rfl
  have e3 : decide (1 = 2) = false := rfl
  simp only [decide_true, Bool.true_and, e0, e1, e2, e3, Bool.false_and, Bool.false_or, Bool.or_false, Bool.toNat_false, Nat.add_zero]
  refine ⟨trivial, by omega, ?_, ?_⟩
  · by_cases h : 0 < a % b
    · rw [decide_eq_true h]
      have := Bool.toNat_le (decide (b < 2 * (a % b)) || decide (2 * (a % b) = b) && decide (a / b % 2 = 1))
      simp only [Bool.toNat_true]
      omega
    · rcases Nat.eq_zero_or_pos b with hb | hb
      · subst hb
        rw [Nat.mod_zero] at h ⊢
        obtain rfl : a = 0 := by omega
        simp
      · rw [decide_eq_false (show ¬ b < 2 * (a % b) by omega), decide_eq_false (show ¬ 2 * (a % b) = b by omega)]
        simp
  · have := Bool.toNat_le (decide (0 < a % b))
    omega

/-- Ticks' answers, rounded down, to the nearest, up. -/
theorem between (x : Nat) (hz : Int) :
    (∃ c, c ≠ 0 ∧ c ≤ 5 ∧ tkE x hz 0 = c ∧ tkE x hz 2 = c ∧ tkE x hz 1 = c ∧ tkV x hz 0 = 0 ∧ tkV x hz 2 = 0 ∧ tkV x hz 1 = 0) ∨
    (tkE x hz 0 = 0 ∧ tkE x hz 2 = 0 ∧ tkE x hz 1 = 0 ∧ 0 ≤ tkV x hz 0 ∧ tkV x hz 0 ≤ tkV x hz 2 ∧ tkV x hz 2 ≤ tkV x hz 1 ∧ tkV x hz 1 ≤ tkV x hz 0 + 1 ∧ tkV x hz 1 ≤ 4611686018427387903) ∨
    (tkE x hz 0 = 0 ∧ tkE x hz 1 = 5 ∧ tkV x hz 0 = 4611686018427387903) := by
  have hA2 : argsT hz 2 = argsT hz 0 := by unfold argsT; simp
  have hA1 : argsT hz 1 = argsT hz 0 := by unfold argsT; simp
  cases hA : argsT hz 0 with
  | false =>
    obtain ⟨e0, v0⟩ := tk_arg (b := x) hA
    obtain ⟨e1, v1⟩ := tk_arg (b := x) (hA1.trans hA)
    obtain ⟨e2, v2⟩ := tk_arg (b := x) (hA2.trans hA)
    exact Or.inl ⟨1, by decide, by decide, e0, e2, e1, v0, v2, v1⟩
  | true =>
    by_cases h1 : 9218868437227405312 ≤ rg x
    · obtain ⟨e0, v0⟩ := tk_fin (b := x) hA h1
      obtain ⟨e1, v1⟩ := tk_fin (b := x) (hA1.trans hA) h1
      obtain ⟨e2, v2⟩ := tk_fin (b := x) (hA2.trans hA) h1
      refine Or.inl ⟨finE (rg x), ?_, ?_, e0, e2, e1, v0, v2, v1⟩
      · unfold finE; repeat' split
        all_goals omega
      · unfold finE; repeat' split
        all_goals omega
    · have h1' : rg x < 9218868437227405312 := by omega
      by_cases h2 : sgn x = true ∧ 0 < rg x
      · obtain ⟨e0, v0⟩ := tk_neg (b := x) hA h1' h2
        obtain ⟨e1, v1⟩ := tk_neg (b := x) (hA1.trans hA) h1' h2
        obtain ⟨e2, v2⟩ := tk_neg (b := x) (hA2.trans hA) h1' h2
        exact Or.inl ⟨5, by decide, by decide, e0, e2, e1, v0, v2, v1⟩
      · obtain ⟨-, w1, w2, w3⟩ := whole_three (V (rg x) * hz.toNat) (pw 1074)
        have w1' : tickN (rg x) hz.toNat 0 ≤ tickN (rg x) hz.toNat 2 := w1
        have w2' : tickN (rg x) hz.toNat 2 ≤ tickN (rg x) hz.toNat 1 := w2
        have w3' : tickN (rg x) hz.toNat 1 ≤ tickN (rg x) hz.toNat 0 + 1 := w3
        have s0 := tk_some (b := x) hA h1' h2
        have s1 := tk_some (b := x) (hA1.trans hA) h1' h2
        have s2 := tk_some (b := x) (hA2.trans hA) h1' h2
        have b0 := tk_big (b := x) hA h1' h2
        have b1 := tk_big (b := x) (hA1.trans hA) h1' h2
        have b2 := tk_big (b := x) (hA2.trans hA) h1' h2
        rw [show (0 : Int).toNat = 0 from rfl] at s0 b0
        rw [show (1 : Int).toNat = 1 from rfl] at s1 b1
        rw [show (2 : Int).toNat = 2 from rfl] at s2 b2
        generalize tickN (rg x) hz.toNat 0 = q at *
        generalize tickN (rg x) hz.toNat 1 = u at *
        generalize tickN (rg x) hz.toNat 2 = n at *
        by_cases hq : q ≤ 4611686018427387903
        · obtain ⟨e0, v0⟩ := s0 hq
          by_cases hu : u ≤ 4611686018427387903
          · obtain ⟨e1, v1⟩ := s1 hu
            obtain ⟨e2, v2⟩ := s2 (by omega)
            refine Or.inr (Or.inl ⟨e0, e2, e1, ?_⟩)
            rw [v0, v1, v2]
            omega
          · obtain ⟨e1, v1⟩ := b1 hu
            refine Or.inr (Or.inr ⟨e0, e1, ?_⟩)
            rw [v0]
            omega
        · obtain ⟨e0, v0⟩ := b0 hq
          obtain ⟨e1, v1⟩ := b1 (by omega)
          obtain ⟨e2, v2⟩ := b2 (by omega)
          exact Or.inl ⟨5, by decide, by decide, e0, e2, e1, v0, v2, v1⟩

theorem tk_zero {b : Nat} {hz how : Int} (h : tkE b hz how = 0) : rg b < 9218868437227405312 ∧ ¬ (sgn b = true ∧ 0 < rg b) ∧ tkV b hz how = tickN (rg b) hz.toNat how.toNat := by
  refine ⟨?_, ?_, by unfold tkV; rw [if_pos h]⟩
  · refine Nat.lt_of_not_le fun h1 => ?_
    cases hA : argsT hz how with
    | false => have := (tk_arg (b := b) hA).1; omega
    | true =>
      have e := (tk_fin hA h1).1
      rcases finE_kind (rg b) with ⟨-, g⟩ | ⟨-, g⟩ | ⟨g, -⟩
      · omega
      · omega
      · rcases kind_cases (rg b) with ⟨g', -⟩ | ⟨-, g', -⟩ | ⟨-, g', -⟩ | ⟨-, g'⟩ | ⟨-, g'⟩ <;> omega
  · intro h2
    cases hA : argsT hz how with
    | false => have := (tk_arg (b := b) hA).1; omega
    | true =>
      by_cases h1 : rg b < 9218868437227405312
      · have e := (tk_neg (b := b) hA h1 h2).1; omega
      · have e := (tk_fin (b := b) hA (show 9218868437227405312 ≤ rg b by omega)).1
        rcases finE_kind (rg b) with ⟨-, g⟩ | ⟨-, g⟩ | ⟨g, -⟩
        · omega
        · omega
        · rcases kind_cases (rg b) with ⟨g', -⟩ | ⟨-, g', -⟩ | ⟨-, g', -⟩ | ⟨-, g'⟩ | ⟨-, g'⟩ <;> omega

/-- A greater number has no fewer ticks. -/
theorem more_ticks {x y : Nat} {hz : Int} (hx : tkE x hz 0 = 0) (hy : tkE y hz 0 = 0) (h : keyW x ≤ keyW y) : tkV x hz 0 ≤ tkV y hz 0 := by
  obtain ⟨h1, h2, h3⟩ := tk_zero hx
  obtain ⟨g1, g2, g3⟩ := tk_zero hy
  have hr : rg x ≤ rg y := by
    unfold keyW at h
    cases hs : sgn x <;> cases ht : sgn y
    · simp only [hs, ht] at h
      simpa using h
    · have e : rg y = 0 := by
        refine Nat.eq_zero_of_not_pos fun h' => g2 ⟨ht, h'⟩
      simp only [hs, ht, e] at h
      simp at h
      omega
    · have e : rg x = 0 := by
        refine Nat.eq_zero_of_not_pos fun h' => h2 ⟨hs, h'⟩
      omega
    · have e : rg x = 0 := by
        refine Nat.eq_zero_of_not_pos fun h' => h2 ⟨hs, h'⟩
      omega
  rw [h3, g3]
  have : tickN (rg x) hz.toNat 0 ≤ tickN (rg y) hz.toNat 0 := by
    unfold tickN
    rw [(whole_three _ _).1, (whole_three _ _).1]
    exact Nat.div_le_div_right (Nat.mul_le_mul_right _ (V_le hr))
  exact_mod_cast this
end Go.Proofs.YtbpldplbkmabmaaDoor
