/- Plain laws of Ratio: turned signs, the same times, over itself, neighbours. No program's run in this text. -/
import Derived.Test.YtbpldplbkmabmaaDoorRlP
namespace Go.Proofs.YtbpldplbkmabmaaDoor

theorem keyW_mkW {s : Bool} {r : Nat} (h : r < 9223372036854775808) : keyW (mkW s r) = if s then -(r : Int) else (r : Int) := by
  unfold keyW
  rw [sgn_mkW h, rg_mkW h]

theorem ratnat_scale {na nb r : Nat} (h : RatNat na nb r) : RatNat (2 * na) (2 * nb) r := by
  obtain ⟨h1, h2⟩ := h
  refine ⟨?_, h2⟩
  rw [show 2 * na * pw 1074 = na * pw 1074 * 2 by rw [Nat.mul_assoc, Nat.mul_comm 2], Nat.mul_comm 2 nb]
  exact (near_scale 2 (by decide)).2 h1

theorem v_one (k : Nat) : V (k * 4503599627370496 + 4503599627370496) = pw (52 + k) := by
  rw [V_at (by decide) (Or.inr (Nat.le_refl _))]
  unfold pw
  rw [Nat.pow_add]

theorem ratnat_one {n : Nat} (h : 0 < n) : RatNat n n 4607182418800017408 := by
  refine ⟨near_exact h ?_, by decide, by decide⟩
  have e : V 4607182418800017408 = pw 1074 := by
    exact v_one 1022
  rw [e, Nat.mul_comm]

theorem ratnat_mono {na nb r na' r' : Nat} (hb : 0 < nb) (h : RatNat na nb r) (h' : RatNat na' nb r') (hle : na ≤ na') : r ≤ r' :=
  near_mono hb hb h.1 h'.1 (Nat.mul_le_mul_right _ (Nat.mul_le_mul_right _ hle))

theorem dec_neg {A : Int} (h : A ≠ 0) : decide (-A < 0) = !decide (A < 0) := by
  by_cases g : A < 0
  · rw [decide_eq_true g, decide_eq_false (show ¬ -A < 0 by omega)]; rfl
  · rw [decide_eq_false g, decide_eq_true (show -A < 0 by omega)]; rfl

/-- Turned signs, and twice. -/
theorem rat_turn {A B : Int} {x f : Nat} (hB : B ≠ 0) (h : RatW A B x f) : f = 0 ∧ RatW (-A) (-B) x 0 ∧ RatW (2 * A) (2 * B) x 0 ∧
    ((A = 0 ∧ x = 0 ∧ RatW (-A) B 0 0) ∨ (A ≠ 0 ∧ ∃ s r, r < 9218868437227405312 ∧ x = mkW s r ∧ RatW (-A) B (mkW (!s) r) 0)) := by
  rcases h with ⟨h1, -⟩ | ⟨-, rfl, rfl, rfl⟩ | ⟨-, hA, rfl, r, hr, rfl⟩
  · exact absurd h1 hB
  · exact ⟨rfl, Or.inr (Or.inl ⟨by omega, by omega, rfl, rfl⟩), Or.inr (Or.inl ⟨by omega, by omega, rfl, rfl⟩), Or.inl ⟨rfl, rfl, Or.inr (Or.inl ⟨hB, by omega, rfl, rfl⟩)⟩⟩
  · refine ⟨rfl, Or.inr (Or.inr ⟨by omega, by omega, rfl, r, ?_, ?_⟩), Or.inr (Or.inr ⟨by omega, by omega, rfl, r, ?_, ?_⟩), Or.inr ⟨hA, _, r, hr.2.2, rfl, Or.inr (Or.inr ⟨hB, by omega, rfl, r, ?_, ?_⟩)⟩⟩
    · rw [Int.natAbs_neg, Int.natAbs_neg]; exact hr
    · rw [dec_neg hA, dec_neg hB]
      cases decide (A < 0) <;> cases decide (B < 0) <;> rfl
    · rw [Int.natAbs_mul, Int.natAbs_mul]; exact ratnat_scale hr
    · rw [show decide (2 * A < 0) = decide (A < 0) by by_cases g : A < 0 <;> simp <;> omega, show decide (2 * B < 0) = decide (B < 0) by by_cases g : B < 0 <;> simp <;> omega]
    · rw [Int.natAbs_neg]; exact hr
    · rw [dec_neg hA]
      cases decide (A < 0) <;> cases decide (B < 0) <;> rfl

theorem rat_self {B : Int} (hB : B ≠ 0) : RatW B B 4607182418800017408 0 :=
  Or.inr (Or.inr ⟨hB, hB, rfl, _, ratnat_one (by omega), by cases decide (B < 0) <;> rfl⟩)

theorem rat_mono {A A' B : Int} {x f x' f' : Nat} (hB : 0 < B) (hle : A ≤ A') (h : RatW A B x f) (h' : RatW A' B x' f') : keyW x ≤ keyW x' := by
  have hd : decide (B < 0) = false := decide_eq_false (by omega)
  have k0 : keyW 0 = 0 := rfl
  rcases h with ⟨h1, -⟩ | ⟨-, rfl, rfl, rfl⟩ | ⟨-, hA, rfl, r, hr, rfl⟩
  · omega
  · rcases h' with ⟨h1, -⟩ | ⟨-, rfl, rfl, rfl⟩ | ⟨-, hA', rfl, r', hr', rfl⟩
    · omega
    · exact Int.le_refl _
    · rw [k0, keyW_mkW (by have := hr'.2.2; omega), hd, decide_eq_false (show ¬ A' < 0 by omega)]
      simp
  · rcases h' with ⟨h1, -⟩ | ⟨-, rfl, rfl, rfl⟩ | ⟨-, hA', rfl, r', hr', rfl⟩
    · omega
    · rw [k0, keyW_mkW (by have := hr.2.2; omega), hd, decide_eq_true (show A < 0 by omega)]
      simp
    · rw [keyW_mkW (by have := hr.2.2; omega), keyW_mkW (by have := hr'.2.2; omega), hd]
      by_cases g : A < 0
      · by_cases g' : A' < 0
        · have := ratnat_mono (by omega) hr' hr (by omega)
          rw [decide_eq_true g, decide_eq_true g']
          simp; exact this
        · rw [decide_eq_true g, decide_eq_false g']
          simp
      · have := ratnat_mono (by omega) hr hr' (by omega)
        rw [decide_eq_false g, decide_eq_false (show ¬ A' < 0 by omega)]
        simp; exact this
end Go.Proofs.YtbpldplbkmabmaaDoor
