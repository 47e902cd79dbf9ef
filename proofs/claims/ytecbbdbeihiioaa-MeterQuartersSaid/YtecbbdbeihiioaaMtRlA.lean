/- Contracts of real.Kind, Minus, finite and of spigotref03.size, Minus, Kind, Number. -/
import Derived.Test.YtecbbdbeihiioaaMtFlE
namespace Go.Proofs.Ytecbbdbeihiioaa
open Go.RowKit

/-- The kind of a rung. -/
def kindN (r : Nat) : Nat := if r = 0 then 0 else if r < 4503599627370496 then 1 else if r < 9218868437227405312 then 2 else if r = 9218868437227405312 then 3 else 4

/-- The error of what isn't a number. -/
def finE (r : Nat) : Nat := if 9218868437227405312 < r then 4 else if r = 9218868437227405312 then 5 else 0

theorem kind_cases (r : Nat) : (r = 0 ∧ kindN r = 0) ∨ (0 < r ∧ r < 4503599627370496 ∧ kindN r = 1) ∨ (4503599627370496 ≤ r ∧ r < 9218868437227405312 ∧ kindN r = 2) ∨ (r = 9218868437227405312 ∧ kindN r = 3) ∨ (9218868437227405312 < r ∧ kindN r = 4) := by
  unfold kindN
  repeat' split
  all_goals omega

theorem ford_zero (r : Nat) (h : r < 9223372036854775808) : (FloatKind.f64.format.order r 0 == some .eq) = decide (r = 0) := by
  rw [ord_eq (by omega) (by decide)]
  unfold okW keyW
  rw [rg_pos h, sgn_pos h, rg_pos (show (0 : Nat) < 9223372036854775808 by decide), sgn_pos (show (0 : Nat) < 9223372036854775808 by decide)]
  by_cases h1 : r = 0
  · simp [h1]
  · simp [h1]

theorem ford_min (r : Nat) (h : r < 9223372036854775808) : (FloatKind.f64.format.order r 4503599627370496 == some .lt) = decide (r < 4503599627370496) := by
  rw [ord_lt (by omega) (by decide)]
  unfold okW keyW
  rw [rg_pos h, sgn_pos h, rg_pos (show (4503599627370496 : Nat) < 9223372036854775808 by decide), sgn_pos (show (4503599627370496 : Nat) < 9223372036854775808 by decide)]
  by_cases h1 : r < 4503599627370496
  · simp [h1]; omega
  · simp [h1]; omega

theorem finE_kind (r : Nat) : (kindN r = 4 ∧ finE r = 4) ∨ (kindN r = 3 ∧ finE r = 5) ∨ (kindN r < 3 ∧ finE r = 0) := by
  unfold kindN finE
  repeat' split
  all_goals omega

theorem size_ref (b : Nat) (w : World) :
    Calls Try.prog 57 #[.float .f64 b] w fun e w' => e = .returned (.int .u64 (rg b)) ∧ w = w' := by
  have h1 := ext_bits b w
  have h2 : ((rg b : Nat) : Int) = (b : Int) % 9223372036854775808 := by unfold rg; omega
  rw [h2]
  clear h2
  go_enter Try.func57, Try.ntmps57
  go_wp2
  go_ret
  exact ⟨rfl, rfl⟩

theorem minus_ref (b : Nat) (w : World) :
    Calls Try.prog 39 #[.float .f64 b] w fun e w' => e = .returned (.bool (sgn b)) ∧ w = w' := by
  have h1 := ext_bits b w
  have h2 : decide ((9223372036854775808 : Int) ≤ (b : Int)) = sgn b := by
    unfold sgn
    by_cases h : 9223372036854775808 ≤ b
    · rw [decide_eq_true h]; simp; omega
    · rw [decide_eq_false h]; simp; omega
  go_enter Try.func39, Try.ntmps39
  go_wp2
  go_ret
  exact ⟨rfl, rfl⟩

set_option maxHeartbeats 1000000 in
theorem kind_ref (b : Nat) (w : World) :
    Calls Try.prog 38 #[.float .f64 b] w fun e w' => e = .returned (.int .i64 (kindN (rg b))) ∧ w = w' := by
  have K := Lib.hid (fun v => size_ref b v)
  have hc := kind_cases (rg b)
  generalize rg b = r at *
  rcases hc with ⟨hr, hk⟩ | ⟨hr, hr2, hk⟩ | ⟨hr, hr2, hk⟩ | ⟨hr, hk⟩ | ⟨hr, hk⟩
  · subst hr
    rw [hk]
    clear hk
    go_enter Try.func38, Try.ntmps38
    go_wp2_with (go_at_call 57; (with_reducible refine (K.out _).mono ?_); rintro e w' ⟨rfl, rfl⟩)
    go_ret
    exact ⟨rfl, rfl⟩
  all_goals
    rw [hk]
    have h0 : ((r : Int) == 0) = false := by simp; omega
    have h1 : decide ((r : Int) < 4503599627370496) = (decide (r < 4503599627370496)) := by simp; omega
    have h2 : decide ((r : Int) < 9218868437227405312) = (decide (r < 9218868437227405312)) := by simp; omega
    have h3 : ((r : Int) == 9218868437227405312) = (decide (r = 9218868437227405312)) := by
      by_cases h : r = 9218868437227405312
      · subst h; rfl
      · rw [decide_eq_false h]; simp; omega
    first | rw [decide_eq_true (p := r < 4503599627370496) (by omega)] at h1 | rw [decide_eq_false (p := r < 4503599627370496) (by omega)] at h1
    first | rw [decide_eq_true (p := r < 9218868437227405312) (by omega)] at h2 | rw [decide_eq_false (p := r < 9218868437227405312) (by omega)] at h2
    first | rw [decide_eq_true (p := r = 9218868437227405312) (by omega)] at h3 | rw [decide_eq_false (p := r = 9218868437227405312) (by omega)] at h3
    clear hk hr
    go_enter Try.func38, Try.ntmps38
    go_wp2_with (go_at_call 57; (with_reducible refine (K.out _).mono ?_); rintro e w' ⟨rfl, rfl⟩)
    go_ret
    exact ⟨rfl, rfl⟩

/-- Number's mantissa and exponent (above 2^-1074) of a finite rung. -/
def numM (r : Nat) : Nat := if r < 4503599627370496 then r else r % 4503599627370496 + 4503599627370496

def numE (r : Nat) : Nat := r / 4503599627370496 - 1

theorem num_val {r : Nat} : numM r * 2 ^ numE r = V r := by
  unfold numM numE V
  by_cases h : r < 4503599627370496
  · rw [if_pos h, if_pos h, show r / 4503599627370496 - 1 = 0 by omega]; simp
  · rw [if_neg h, if_neg h, Nat.add_comm]

theorem ret_int_int {k l : IntKind} {a b c d : Int} (h : a = c) (h' : b = d) : Ending.returned (.tuple #[.int k a, .int l b]) = .returned (.tuple #[.int k c, .int l d]) := by rw [h, h']
end Go.Proofs.Ytecbbdbeihiioaa
