/- Contracts of tick.Mul, Div and Ceil, and of the statements' own helpers: what each call returns, for every input. -/
import Derived.Test.YtdjiihcbaedmcaaTickC
import Derived.Test.YtdjiihcbaedmcaaMul64
namespace Go.Proofs.Ytdjiihcbaedmcaa
open Go.RowKit

theorem mul_nat (a b : Int) (a0 : 0 ≤ a) (b0 : 0 ≤ b) : ((a.toNat * b.toNat : Nat) : Int) = a * b := by
  rw [Int.natCast_mul, Int.toNat_of_nonneg a0, Int.toNat_of_nonneg b0]

set_option maxHeartbeats 400000 in
theorem mul_yes (a b : Int) (w : World) (ha : tickB a = true) (hb : tickB b = true) :
    Calls Try.prog 24 #[.int .i64 a, .int .i64 b] w fun e w' => e = .returned (.tuple #[.int .i64 (clampI (a * b)), .int .i64 0]) ∧ w = w' := by
  have a0 := (tickB_yes ha).1; have a1 := (tickB_yes ha).2; have b0 := (tickB_yes hb).1; have b1 := (tickB_yes hb).2
  obtain ⟨x, rfl⟩ := Int.eq_ofNat_of_zero_le a0
  obtain ⟨y, rfl⟩ := Int.eq_ofNat_of_zero_le b0
  have hx : x < 18446744073709551616 := by omega
  have hy : y < 18446744073709551616 := by omega
  have hxy : ((x * y : Nat) : Int) = (x : Int) * (y : Int) := Int.natCast_mul x y
  rw [← hxy]
  generalize hp : x * y = p
  have hc := mul64_any x y hx hy
  rw [hp] at hc
  have Hc := Lib.hid hc
  clear hc hp hxy
  by_cases h0 : p ≤ 4611686018427387903
  · have e : clampI (p : Int) = p := clampI_id (by omega) (by omega)
    rw [e]
    have e1 : p / 18446744073709551616 = 0 := by omega
    have e2 : p % 18446744073709551616 = p := by omega
    rw [e1, e2] at Hc
    clear e e1 e2
    go_enter Try.func24, Try.ntmps24
    go_wp2_with (first | (go_at_call 51; with_reducible refine (both_yes _ _ _ ha hb).mono ?_; rintro e w' ⟨rfl, rfl⟩) | (go_at_call 52; with_reducible refine (Hc.out _).mono ?_; rintro e w' ⟨rfl, rfl⟩))
    go_ret2
    exact ⟨rfl, rfl⟩
  · have e : clampI (p : Int) = 4611686018427387903 := by unfold clampI; split <;> (try split) <;> omega
    rw [e]
    clear e
    by_cases h1 : p / 18446744073709551616 = 0
    · have e2 : p % 18446744073709551616 = p := by omega
      rw [h1, e2] at Hc
      clear h1 e2
      go_enter Try.func24, Try.ntmps24
      go_wp2_with (first | (go_at_call 51; with_reducible refine (both_yes _ _ _ ha hb).mono ?_; rintro e w' ⟨rfl, rfl⟩) | (go_at_call 52; with_reducible refine (Hc.out _).mono ?_; rintro e w' ⟨rfl, rfl⟩))
      go_ret2
      exact ⟨rfl, rfl⟩
    · have h2 : 0 < p / 18446744073709551616 := by omega
      generalize p / 18446744073709551616 = q at *
      generalize p % 18446744073709551616 = r at *
      have h3 : (0 : Int) < (q : Int) := by omega
      clear h1 h2 h0
      go_enter Try.func24, Try.ntmps24
      go_wp2_with (first | (go_at_call 51; with_reducible refine (both_yes _ _ _ ha hb).mono ?_; rintro e w' ⟨rfl, rfl⟩) | (go_at_call 52; with_reducible refine (Hc.out _).mono ?_; rintro e w' ⟨rfl, rfl⟩))
      go_ret2
      exact ⟨rfl, rfl⟩

set_option maxHeartbeats 400000 in
theorem mul_no (a b : Int) (w : World) (h : (tickB a && tickB b) = false) :
    Calls Try.prog 24 #[.int .i64 a, .int .i64 b] w fun e w' => e = .returned (.tuple #[.int .i64 0, .int .i64 1]) ∧ w = w' := by
  have H := Lib.hid h; clear h
  go_enter Try.func24, Try.ntmps24
  go_wp2_with (first | (go_at_call 51; with_reducible refine (both_no _ _ _ H.out).mono ?_; rintro e w' ⟨rfl, rfl⟩))
  go_ret2
  exact ⟨rfl, rfl⟩

set_option maxHeartbeats 400000 in
theorem div_yes (a b : Int) (w : World) (ha : tickB a = true) (hb : tickB b = true) (h0 : 0 < b) :
    Calls Try.prog 29 #[.int .i64 a, .int .i64 b] w fun e w' => e = .returned (.tuple #[.int .i64 (a / b), .int .i64 (a % b), .int .i64 0]) ∧ ∃ n, w' = w.drewN n := by
  have a0 := (tickB_yes ha).1; have a1 := (tickB_yes ha).2; have b1 := (tickB_yes hb).2
  have hne : (b == 0) = false := beq_eq_false_iff_ne.2 (by omega)
  go_enter Try.func29, Try.ntmps29
  go_wp2_with (first | (go_at_call 51; with_reducible refine (both_yes _ _ _ ha hb).mono ?_; rintro e w' ⟨rfl, rfl⟩))
  go_quiet (fail)
  go_wp2
  go_ret3
  exact ⟨rfl, _, rfl⟩

set_option maxHeartbeats 400000 in
theorem div_no (a b : Int) (w : World) (h : (tickB a && tickB b) = false) :
    Calls Try.prog 29 #[.int .i64 a, .int .i64 b] w fun e w' => e = .returned (.tuple #[.int .i64 0, .int .i64 0, .int .i64 1]) ∧ ∃ n, w' = w.drewN n := by
  have H := Lib.hid h; clear h
  go_enter Try.func29, Try.ntmps29
  go_wp2_with (first | (go_at_call 51; with_reducible refine (both_no _ _ _ H.out).mono ?_; rintro e w' ⟨rfl, rfl⟩))
  go_ret3
  exact ⟨rfl, 0, rfl⟩

set_option maxHeartbeats 400000 in
theorem div_zero (a : Int) (w : World) (ha : tickB a = true) :
    Calls Try.prog 29 #[.int .i64 a, .int .i64 0] w fun e w' => e = .returned (.tuple #[.int .i64 0, .int .i64 0, .int .i64 1]) ∧ ∃ n, w' = w.drewN n := by
  have hb : tickB 0 = true := tickB_mk (by omega) (by omega)
  go_enter Try.func29, Try.ntmps29
  go_wp2_with (first | (go_at_call 51; with_reducible refine (both_yes _ _ _ ha hb).mono ?_; rintro e w' ⟨rfl, rfl⟩))
  go_ret3
  exact ⟨rfl, 0, rfl⟩

set_option maxHeartbeats 400000 in
theorem ceil_yes (a b : Int) (w : World) (ha : tickB a = true) (hb : tickB b = true) (h0 : 0 < b) :
    Calls Try.prog 31 #[.int .i64 a, .int .i64 b] w fun e w' => e = .returned (.tuple #[.int .i64 (ceilI a b), .int .i64 0]) ∧ ∃ n, w' = w.drewN n := by
  have a0 := (tickB_yes ha).1; have a1 := (tickB_yes ha).2
  obtain ⟨q0, q1, _, _⟩ := div_tick a0 h0
  have hd := div_yes a b
  unfold ceilI
  by_cases hr : 0 < a % b
  · rw [if_pos hr]
    generalize a / b = q at *
    generalize a % b = r at *
    have Hd := Lib.hid hd
    clear hd
    go_enter Try.func31, Try.ntmps31
    go_wp2_with (first | (go_at_call 29; with_reducible refine (Hd.out _ ha hb h0).mono ?_; rintro e w' ⟨rfl, n, rfl⟩))
    go_ret2
    exact ⟨rfl, _, rfl⟩
  · rw [if_neg hr]
    generalize a / b = q at *
    generalize a % b = r at *
    have Hd := Lib.hid hd
    clear hd
    go_enter Try.func31, Try.ntmps31
    go_wp2_with (first | (go_at_call 29; with_reducible refine (Hd.out _ ha hb h0).mono ?_; rintro e w' ⟨rfl, n, rfl⟩))
    go_ret2
    exact ⟨rfl, _, rfl⟩

set_option maxHeartbeats 400000 in
theorem ceil_no (a b : Int) (w : World) (h : (tickB a && tickB b) = false) :
    Calls Try.prog 31 #[.int .i64 a, .int .i64 b] w fun e w' => e = .returned (.tuple #[.int .i64 0, .int .i64 1]) ∧ ∃ n, w' = w.drewN n := by
  have H := Lib.hid h; clear h
  go_enter Try.func31, Try.ntmps31
  go_wp2_with (first | (go_at_call 29; with_reducible refine (div_no _ _ _ H.out).mono ?_; rintro e w' ⟨rfl, n, rfl⟩))
  go_ret2
  exact ⟨rfl, _, rfl⟩

set_option maxHeartbeats 400000 in
theorem ceil_zero (a : Int) (w : World) (ha : tickB a = true) :
    Calls Try.prog 31 #[.int .i64 a, .int .i64 0] w fun e w' => e = .returned (.tuple #[.int .i64 0, .int .i64 1]) ∧ ∃ n, w' = w.drewN n := by
  go_enter Try.func31, Try.ntmps31
  go_wp2_with (first | (go_at_call 29; with_reducible refine (div_zero _ _ ha).mono ?_; rintro e w' ⟨rfl, n, rfl⟩))
  go_ret2
  exact ⟨rfl, _, rfl⟩

set_option maxHeartbeats 400000 in
theorem sum_yes (a b : Int) (w : World) (ha : tickB a = true) (hb : tickB b = true) :
    Calls Try.prog 26 #[.int .i64 a, .int .i64 b] w fun e w' => e = .returned (.int .i64 (clampI (a + b))) ∧ w = w' := by
  go_enter Try.func26, Try.ntmps26
  go_wp2_with (first | (go_at_call 22; with_reducible refine (add_yes _ _ _ ha hb).mono ?_; rintro e w' ⟨rfl, rfl⟩))
  go_ret
  exact ⟨rfl, rfl⟩

set_option maxHeartbeats 400000 in
theorem product_yes (a b : Int) (w : World) (ha : tickB a = true) (hb : tickB b = true) :
    Calls Try.prog 27 #[.int .i64 a, .int .i64 b] w fun e w' => e = .returned (.int .i64 (clampI (a * b))) ∧ w = w' := by
  go_enter Try.func27, Try.ntmps27
  go_wp2_with (first | (go_at_call 24; with_reducible refine (mul_yes _ _ _ ha hb).mono ?_; rintro e w' ⟨rfl, rfl⟩))
  go_ret
  exact ⟨rfl, rfl⟩

set_option maxHeartbeats 400000 in
theorem less_yes (a b : Int) (w : World) (ha : tickB a = true) (hb : tickB b = true) :
    Calls Try.prog 28 #[.int .i64 a, .int .i64 b] w fun e w' => e = .returned (.int .i64 (clampI (a - b))) ∧ w = w' := by
  go_enter Try.func28, Try.ntmps28
  go_wp2_with (first | (go_at_call 23; with_reducible refine (sub_yes _ _ _ ha hb).mono ?_; rintro e w' ⟨rfl, rfl⟩))
  go_ret
  exact ⟨rfl, rfl⟩

set_option maxHeartbeats 400000 in
theorem awake1 (w : World) :
    Calls Try.prog 17 #[] w fun e w' => e = .returned (.bool true) ∧ ∃ n, w' = w.drewN n := by
  have t2 : tickB 2 = true := by decide
  have t3 : tickB 3 = true := by decide
  have t6 : tickB 6 = true := by decide
  have t7 : tickB 7 = true := by decide
  have t0 : tickB 0 = true := by decide
  have c5 : clampI (2 + 3) = 5 := by decide
  have c42 : clampI (6 * 7) = 42 := by decide
  have c9 : clampI 9 = 9 := by decide
  have ka := add_yes 2 3 w t2 t3
  have km := mul_yes 6 7 w t6 t7
  have kd := div_yes 7 2 w t7 t2 (by omega)
  have kf := fun v => form_any 0 v
  have kc := fun v => clamp_any 9 v
  simp only [t0] at kf
  rw [c5] at ka; rw [c42] at km; simp only [c9] at kc
  have Ka := Lib.hid ka; have Km := Lib.hid km; have Kd := Lib.hid kd; have Kf := Lib.hid kf; have Kc := Lib.hid kc
  clear ka km kd kf kc c5 c42 c9 t2 t3 t6 t7 t0
  go_enter Try.func17, Try.ntmps17
  go_wp2_with (first | (go_at_call 22; with_reducible refine Ka.out.mono ?_; rintro e w' ⟨rfl, rfl⟩) | (go_at_call 24; with_reducible refine Km.out.mono ?_; rintro e w' ⟨rfl, rfl⟩) | (go_at_call 29; with_reducible refine Kd.out.mono ?_; rintro e w' ⟨rfl, n, rfl⟩) | (go_at_call 18; with_reducible refine (Kf.out _).mono ?_; rintro e w' ⟨rfl, rfl⟩) | (go_at_call 20; with_reducible refine (Kc.out _).mono ?_; rintro e w' ⟨rfl, rfl⟩))
  go_ret
  exact ⟨rfl, _, rfl⟩

end Go.Proofs.Ytdjiihcbaedmcaa
