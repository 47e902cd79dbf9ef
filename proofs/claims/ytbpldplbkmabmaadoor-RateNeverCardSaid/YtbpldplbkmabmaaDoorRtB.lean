/- Contract of rate.check. -/
import Derived.Test.YtbpldplbkmabmaaDoorRtA
namespace Go.Proofs.YtbpldplbkmabmaaDoor
open Go.RowKit
set_option linter.unusedVariables false

/-- A rate as a value. -/
def rateV (p b : Nat) (hz : Int) : Value := .agg #[.float .f64 p, .float .f64 b, .int .i64 hz]

/-- The error of a rate, but for what its numbers become. -/
def rtC (p b : Nat) (hz : Int) : Nat :=
  if hz < 1 ∨ 1000000000 < hz then 1 else if 9218868437227405312 < rg p ∨ 9218868437227405312 < rg b then 4
  else if 9218868437227405312 ≤ rg p ∨ sgn p = true ∨ rg p = 0 ∨ 9218868437227405312 ≤ rg b ∨ (sgn b = true ∧ 0 < rg b) then 5 else 0

set_option maxRecDepth 100000 in
set_option maxHeartbeats 8000000 in
theorem check_core (p b : Nat) (hz kp kb r : Int) (np nb lp zp lb : Bool) (w : World)
    (k1 : ∀ v, Calls Tryd.prog 33 #[.float .f64 p] v fun e w' => e = .returned (.int .i64 kp) ∧ v = w')
    (k2 : ∀ v, Calls Tryd.prog 33 #[.float .f64 b] v fun e w' => e = .returned (.int .i64 kb) ∧ v = w')
    (h1 : (FloatKind.f64.format.order p p != some .eq) = np) (h2 : (FloatKind.f64.format.order b b != some .eq) = nb)
    (h3 : (FloatKind.f64.format.order p 0 == some .lt) = lp) (h4 : (FloatKind.f64.format.order p 0 == some .eq) = zp) (h5 : (FloatKind.f64.format.order b 0 == some .lt) = lb)
    (h : (hz < 1 ∧ r = 1) ∨ (1 ≤ hz ∧ 1000000000 < hz ∧ r = 1) ∨ (1 ≤ hz ∧ hz ≤ 1000000000 ∧ ((np = true ∧ r = 4) ∨ (np = false ∧ nb = true ∧ r = 4) ∨ (np = false ∧ nb = false ∧ ((2 < kp ∧ r = 5) ∨ (kp ≤ 2 ∧ ((lp = true ∧ r = 5) ∨ (lp = false ∧ zp = true ∧ r = 5) ∨ (lp = false ∧ zp = false ∧ ((2 < kb ∧ r = 5) ∨ (kb ≤ 2 ∧ lb = true ∧ r = 5) ∨ (kb ≤ 2 ∧ lb = false ∧ r = 0)))))))))) :
    Calls Tryd.prog 53 #[rateV p b hz] w (IntRes w r) := by
  have K1 := Lib.hid k1
  have K2 := Lib.hid k2
  clear k1 k2
  unfold rateV
  rcases h with ⟨a1, rfl⟩ | ⟨a0, a1, rfl⟩ | ⟨a0, a1, ⟨rfl, rfl⟩ | ⟨rfl, rfl, rfl⟩ | ⟨rfl, rfl, ⟨a2, rfl⟩ | ⟨a2, ⟨rfl, rfl⟩ | ⟨rfl, rfl, rfl⟩ | ⟨rfl, rfl, ⟨a3, rfl⟩ | ⟨a3, rfl, rfl⟩ | ⟨a3, rfl, rfl⟩⟩⟩⟩⟩
  all_goals
    go_enter Tryd.func53, Tryd.ntmps53
    go_wp2_with (first | (go_at_call 33; (with_reducible refine (K1.out _).mono ?_); rintro e1 w' ⟨rfl, rfl⟩) | (go_at_call 33; (with_reducible refine (K2.out _).mono ?_); rintro e1 w' ⟨rfl, rfl⟩))
    go_ret
    exact ⟨rfl, (Below.refl _ _).alloc (Nat.le_refl _) _⟩

theorem not_self (b : Nat) (hb : b < 18446744073709551616) : (FloatKind.f64.format.order b b != some .eq) = decide (9218868437227405312 < rg b) := by
  rw [bne, ford_self b hb]
  by_cases h : rg b ≤ 9218868437227405312
  · rw [decide_eq_true h, decide_eq_false (by omega)]; rfl
  · rw [decide_eq_false h, decide_eq_true (by omega)]; rfl

theorem check_any (p b : Nat) (hz : Int) (w : World) (hp : p < 18446744073709551616) (hb : b < 18446744073709551616) :
    Calls Tryd.prog 53 #[rateV p b hz] w (IntRes w (rtC p b hz)) := by
  refine check_core p b hz (kindN (rg p)) (kindN (rg b)) (rtC p b hz) _ _ _ _ _ w (fun v => kind_any p v hp) (fun v => kind_any b v hb) (not_self p hp) (not_self b hb) rfl (ford_zero' p hp) rfl ?_
  unfold rtC
  by_cases c1 : hz < 1
  · rw [if_pos (Or.inl c1)]; exact Or.inl ⟨c1, rfl⟩
  refine Or.inr ?_
  by_cases c2 : 1000000000 < hz
  · rw [if_pos (Or.inr c2)]; exact Or.inl ⟨by omega, c2, rfl⟩
  rw [if_neg (by omega)]
  refine Or.inr ⟨by omega, by omega, ?_⟩
  by_cases c3 : 9218868437227405312 < rg p
  · rw [if_pos (Or.inl c3), decide_eq_true c3]; exact Or.inl ⟨rfl, rfl⟩
  by_cases c4 : 9218868437227405312 < rg b
  · rw [if_pos (Or.inr c4), decide_eq_true c4, decide_eq_false c3]; exact Or.inr (Or.inl ⟨rfl, rfl, rfl⟩)
  rw [if_neg (by omega), decide_eq_false c3, decide_eq_false c4, ford_neg p hp (by omega), ford_neg b hb (by omega)]
  refine Or.inr (Or.inr ⟨rfl, rfl, ?_⟩)
  have kp := kind_cases (rg p)
  have kb := kind_cases (rg b)
  by_cases c5 : 9218868437227405312 ≤ rg p
  · rw [if_pos (Or.inl c5)]; exact Or.inl ⟨by omega, rfl⟩
  refine Or.inr ⟨by omega, ?_⟩
  by_cases c6 : sgn p = true ∧ 0 < rg p
  · rw [if_pos (Or.inr (Or.inl c6.1)), decide_eq_true c6]; exact Or.inl ⟨rfl, rfl⟩
  rw [decide_eq_false c6]
  refine Or.inr ?_
  by_cases c7 : rg p = 0
  · rw [if_pos (Or.inr (Or.inr (Or.inl c7))), decide_eq_true c7]; exact Or.inl ⟨rfl, rfl, rfl⟩
  have c6' : ¬ sgn p = true := fun h => c6 ⟨h, by omega⟩
  rw [decide_eq_false c7]
  refine Or.inr ⟨rfl, rfl, ?_⟩
  by_cases c8 : 9218868437227405312 ≤ rg b
  · rw [if_pos (Or.inr (Or.inr (Or.inr (Or.inl c8))))]; exact Or.inl ⟨by omega, rfl⟩
  refine Or.inr ?_
  by_cases c9 : sgn b = true ∧ 0 < rg b
  · rw [if_pos (Or.inr (Or.inr (Or.inr (Or.inr c9)))), decide_eq_true c9]; exact Or.inl ⟨by omega, rfl, rfl⟩
  · rw [if_neg (by
      rintro (h | h | h | h | h)
      · exact c5 h
      · exact c6' h
      · exact c7 h
      · exact c8 h
      · exact c9 h), decide_eq_false c9]
    exact Or.inr ⟨by omega, rfl, rfl⟩
end Go.Proofs.YtbpldplbkmabmaaDoor
