/- Contracts of real.Kind, Minus, finite and of spigotref03.size, Minus, Kind, Number. -/
import Derived.Test.YtbpldplbkmabmaaDoorFlE
namespace Go.Proofs.YtbpldplbkmabmaaDoor
open Go.RowKit

/-- The kind of a rung. -/
def kindN (r : Nat) : Nat := if r = 0 then 0 else if r < 4503599627370496 then 1 else if r < 9218868437227405312 then 2 else if r = 9218868437227405312 then 3 else 4
/-- The error of what isn't a number. -/
def finE (r : Nat) : Nat := if 9218868437227405312 < r then 4 else if r = 9218868437227405312 then 5 else 0

theorem kind_cases (r : Nat) : (r = 0 ∧ kindN r = 0) ∨ (0 < r ∧ r < 4503599627370496 ∧ kindN r = 1) ∨ (4503599627370496 ≤ r ∧ r < 9218868437227405312 ∧ kindN r = 2) ∨ (r = 9218868437227405312 ∧ kindN r = 3) ∨ (9218868437227405312 < r ∧ kindN r = 4) := by
  unfold kindN
  repeat' split
  all_goals omega

theorem ford_zero (r : Nat) (h : r < 9223372036854775808) : (FloatKind.f64.format.order r 0 == some .eq) = decide (r = 0) := by
  rw [ord_eq (by omega) (by decide)]
  unfold okW keyW
  rw [rg_pos h, sgn_pos h, rg_pos (show (0 : Nat) < 9223372036854775808 by decide), sgn_pos (show (0 : Nat) < 9223372036854775808 by decide)]
  by_cases h1 : r = 0
  · simp [h1]
  · simp [h1]

theorem ford_min (r : Nat) (h : r < 9223372036854775808) : (FloatKind.f64.format.order r 4503599627370496 == some .lt) = decide (r < 4503599627370496) := by
  rw [ord_lt (by omega) (by decide)]
  unfold okW keyW
  rw [rg_pos h, sgn_pos h, rg_pos (show (4503599627370496 : Nat) < 9223372036854775808 by decide), sgn_pos (show (4503599627370496 : Nat) < 9223372036854775808 by decide)]
  by_cases h1 : r < 4503599627370496
  · simp [h1]; omega
  · simp [h1]; omega

set_option maxHeartbeats 1000000 in
theorem kind_any (b : Nat) (w : World) (hb : b < 18446744073709551616) :
    Calls Tryd.prog 33 #[.float .f64 b] w fun e w' => e = .returned (.int .i64 (kindN (rg b))) ∧ w = w' := by
  have Ka := Lib.hid (fun v => abs_any b v hb)
  have hl := rg_lt b
  have Ki := Lib.hid (fun v => isinf1_any (rg b) v hl)
  have Kn := Lib.hid (fun v => isnan_any (rg b) v (by omega))
  have h0 := ford_zero (rg b) hl
  have h1 := ford_min (rg b) hl
  rw [rg_pos hl] at Kn
  have hc := kind_cases (rg b)
  generalize rg b = r at *
  clear hl
  rcases hc with ⟨hr, hk⟩ | ⟨hr, hr2, hk⟩ | ⟨hr, hr2, hk⟩ | ⟨hr, hk⟩ | ⟨hr, hk⟩
  · rw [hk]; rw [decide_eq_true hr] at h0
    clear hk hr h1
    go_enter Tryd.func33, Tryd.ntmps33
    go_wp2_with (go_at_call 70; (with_reducible refine (Ka.out _).mono ?_); rintro e w' ⟨rfl, rfl⟩)
    go_ret
    exact ⟨rfl, rfl⟩
  · rw [hk]; rw [decide_eq_false (by omega)] at h0; rw [decide_eq_true hr2] at h1
    clear hk hr hr2
    go_enter Tryd.func33, Tryd.ntmps33
    go_wp2_with (go_at_call 70; (with_reducible refine (Ka.out _).mono ?_); rintro e w' ⟨rfl, rfl⟩)
    go_ret
    exact ⟨rfl, rfl⟩
  all_goals
    rw [hk]; rw [decide_eq_false (by omega)] at h0; rw [decide_eq_false (by omega)] at h1
    first | rw [decide_eq_true hr] at Ki | rw [decide_eq_false (by omega)] at Ki
    first | rw [decide_eq_true hr] at Kn | rw [decide_eq_false (by omega)] at Kn
    clear hk hr
    go_enter Tryd.func33, Tryd.ntmps33
    go_wp2_with (first | (go_at_call 70; (with_reducible refine (Ka.out _).mono ?_); rintro e w' ⟨rfl, rfl⟩) | (go_at_call 72; (with_reducible refine (Ki.out _).mono ?_); rintro e w' ⟨rfl, rfl⟩) | (go_at_call 73; (with_reducible refine (Kn.out _).mono ?_); rintro e w' ⟨rfl, rfl⟩))
    go_ret
    exact ⟨rfl, rfl⟩

theorem minus_real (b : Nat) (w : World) (hb : b < 18446744073709551616) :
    Calls Tryd.prog 35 #[.float .f64 b] w fun e w' => e = .returned (.bool (sgn b)) ∧ w = w' := by
  have K := Lib.hid (fun v => signbit_any b v hb)
  go_enter Tryd.func35, Tryd.ntmps35
  go_wp2_with (go_at_call 75; (with_reducible refine (K.out _).mono ?_); rintro e w' ⟨rfl, rfl⟩)
  go_ret
  exact ⟨rfl, rfl⟩

theorem finE_kind (r : Nat) : (kindN r = 4 ∧ finE r = 4) ∨ (kindN r = 3 ∧ finE r = 5) ∨ (kindN r < 3 ∧ finE r = 0) := by
  unfold kindN finE
  repeat' split
  all_goals omega

theorem finite_any (b : Nat) (w : World) (hb : b < 18446744073709551616) :
    Calls Tryd.prog 68 #[.float .f64 b] w fun e w' => e = .returned (.int .i64 (finE (rg b))) ∧ w = w' := by
  have K := Lib.hid (fun v => kind_any b v hb)
  have hc := finE_kind (rg b)
  generalize kindN (rg b) = k at *
  generalize finE (rg b) = f at *
  rcases hc with ⟨rfl, rfl⟩ | ⟨rfl, rfl⟩ | ⟨hk, rfl⟩
  · go_enter Tryd.func68, Tryd.ntmps68
    go_wp2_with (go_at_call 33; (with_reducible refine (K.out _).mono ?_); rintro e w' ⟨rfl, rfl⟩)
    go_ret
    exact ⟨rfl, rfl⟩
  · go_enter Tryd.func68, Tryd.ntmps68
    go_wp2_with (go_at_call 33; (with_reducible refine (K.out _).mono ?_); rintro e w' ⟨rfl, rfl⟩)
    go_ret
    exact ⟨rfl, rfl⟩
  · have h4 : ((k : Int) == 4) = false := by simp; omega
    have h3 : ((k : Int) == 3) = false := by simp; omega
    clear hk
    go_enter Tryd.func68, Tryd.ntmps68
    go_wp2_with (go_at_call 33; (with_reducible refine (K.out _).mono ?_); rintro e w' ⟨rfl, rfl⟩)
    go_ret
    exact ⟨rfl, rfl⟩

theorem size_ref (b : Nat) (w : World) :
    Calls Tryd.prog 74 #[.float .f64 b] w fun e w' => e = .returned (.int .u64 (rg b)) ∧ w = w' := by
  have h1 := ext_bits b w
  have h2 : ((rg b : Nat) : Int) = (b : Int) % 9223372036854775808 := by unfold rg; omega
  rw [h2]
  clear h2
  go_enter Tryd.func74, Tryd.ntmps74
  go_wp2
  go_ret
  exact ⟨rfl, rfl⟩

theorem minus_ref (b : Nat) (w : World) :
    Calls Tryd.prog 36 #[.float .f64 b] w fun e w' => e = .returned (.bool (sgn b)) ∧ w = w' := by
  have h1 := ext_bits b w
  have h2 : decide ((9223372036854775808 : Int) ≤ (b : Int)) = sgn b := by
    unfold sgn
    by_cases h : 9223372036854775808 ≤ b
    · rw [decide_eq_true h]; simp; omega
    · rw [decide_eq_false h]; simp; omega
  go_enter Tryd.func36, Tryd.ntmps36
  go_wp2
  go_ret
  exact ⟨rfl, rfl⟩

set_option maxHeartbeats 1000000 in
theorem kind_ref (b : Nat) (w : World) :
    Calls Tryd.prog 34 #[.float .f64 b] w fun e w' => e = .returned (.int .i64 (kindN (rg b))) ∧ w = w' := by
  have K := Lib.hid (fun v => size_ref b v)
  have hc := kind_cases (rg b)
  generalize rg b = r at *
  rcases hc with ⟨hr, hk⟩ | ⟨hr, hr2, hk⟩ | ⟨hr, hr2, hk⟩ | ⟨hr, hk⟩ | ⟨hr, hk⟩
  · subst hr
    rw [hk]
    clear hk
    go_enter Tryd.func34, Tryd.ntmps34
    go_wp2_with (go_at_call 74; (with_reducible refine (K.out _).mono ?_); rintro e w' ⟨rfl, rfl⟩)
    go_ret
    exact ⟨rfl, rfl⟩
  all_goals
    rw [hk]
    have h0 : ((r : Int) == 0) = false := by simp; omega
    have h1 : decide ((r : Int) < 4503599627370496) = (decide (r < 4503599627370496)) := by simp; omega
    have h2 : decide ((r : Int) < 9218868437227405312) = (decide (r < 9218868437227405312)) := by simp; omega
    have h3 : ((r : Int) == 9218868437227405312) = (decide (r = 9218868437227405312)) := by
      by_cases h : r = 9218868437227405312
      · subst h; rfl
      · rw [decide_eq_false h]; simp; omega
    first | rw [decide_eq_true (p := r < 4503599627370496) (by omega)] at h1 | rw [decide_eq_false (p := r < 4503599627370496) (by omega)] at h1
    first | rw [decide_eq_true (p := r < 9218868437227405312) (by omega)] at h2 | rw [decide_eq_false (p := r < 9218868437227405312) (by omega)] at h2
    first | rw [decide_eq_true (p := r = 9218868437227405312) (by omega)] at h3 | rw [decide_eq_false (p := r = 9218868437227405312) (by omega)] at h3
    clear hk hr
    go_enter Tryd.func34, Tryd.ntmps34
    go_wp2_with (go_at_call 74; (with_reducible refine (K.out _).mono ?_); rintro e w' ⟨rfl, rfl⟩)
    go_ret
    exact ⟨rfl, rfl⟩

/-- Number's mantissa and exponent (above 2^-1074) of a finite rung. -/
def numM (r : Nat) : Nat := if r < 4503599627370496 then r else r % 4503599627370496 + 4503599627370496
def numE (r : Nat) : Nat := r / 4503599627370496 - 1

theorem num_val {r : Nat} : numM r * 2 ^ numE r = V r := by
  unfold numM numE V
  by_cases h : r < 4503599627370496
  · rw [if_pos h, if_pos h, show r / 4503599627370496 - 1 = 0 by omega]; simp
  · rw [if_neg h, if_neg h, Nat.add_comm]

theorem ret_int_int {k l : IntKind} {a b c d : Int} (h : a = c) (h' : b = d) : Ending.returned (.tuple #[.int k a, .int l b]) = .returned (.tuple #[.int k c, .int l d]) := by rw [h, h']

theorem number_ref (b : Nat) (w : World) :
    Calls Tryd.prog 57 #[.float .f64 b] w fun e w' => e = .returned (.tuple #[.int .u64 (numM (rg b)), .int .i64 ((numE (rg b) : Int) - 1074)]) ∧ w = w' := by
  have K := Lib.hid (fun v => size_ref b v)
  have hl := rg_lt b
  unfold numM numE
  generalize rg b = r at *
  have e1 : (r : Int) % 4503599627370496 = ((r % 4503599627370496 : Nat) : Int) := by omega
  have e2 : (r : Int) / 4503599627370496 = ((r / 4503599627370496 : Nat) : Int) := by omega
  by_cases h : r < 4503599627370496
  · rw [if_pos h]
    have e3 : r / 4503599627370496 = 0 := by omega
    have e4 : r % 4503599627370496 = r := by omega
    rw [e3]
    rw [e3] at e2
    have E4 := Lib.hid e4
    clear e1 e3 e4
    go_enter Tryd.func57, Tryd.ntmps57
    go_wp2_with (go_at_call 74; (with_reducible refine (K.out _).mono ?_); rintro e w' ⟨rfl, rfl⟩)
    go_ret2
    exact ⟨ret_int_int (by have := E4.out; omega) (by omega), rfl⟩
  · rw [if_neg h]
    have h1 : 0 < r / 4503599627370496 := by omega
    have h2 : r / 4503599627370496 < 2048 := by omega
    have h3 : r % 4503599627370496 < 4503599627370496 := by omega
    generalize r / 4503599627370496 = E at *
    generalize r % 4503599627370496 = F at *
    clear h hl
    go_enter Tryd.func57, Tryd.ntmps57
    go_wp2_with (go_at_call 74; (with_reducible refine (K.out _).mono ?_); rintro e w' ⟨rfl, rfl⟩)
    go_ret2
    exact ⟨ret_x_int (by omega), rfl⟩
end Go.Proofs.YtbpldplbkmabmaaDoor
