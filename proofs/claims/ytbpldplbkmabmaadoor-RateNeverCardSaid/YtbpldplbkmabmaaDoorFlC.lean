/- Contracts of package math: Abs, Signbit, IsNaN, IsInf. -/
import Derived.Test.YtbpldplbkmabmaaDoorFlB
import Derived.Test.YtbpldplbkmabmaaDoorNatD
import Derived.Laws.BitsAllLaws
namespace Go.Proofs.YtbpldplbkmabmaaDoor
open Go.RowKit

theorem ext_bits (b : Nat) (w : World) : (callFunc 64 #[.float .f64 b]).run Tryd.prog w = .ok (.value (.int .u64 b)) w := by
  rw [run_callFunc_extern (e := Extern.MathFloatBits.float64bits) Tryd.func64 (by kernel_rfl) (by kernel_rfl) (by kernel_rfl) (by kernel_rfl)]
  rfl
theorem ext_from (n : Int) (w : World) : (callFunc 52 #[.int .u64 n]).run Tryd.prog w = .ok (.value (.float .f64 n.toNat)) w := by
  rw [run_callFunc_extern (e := Extern.MathFloatBits.float64frombits) Tryd.func52 (by kernel_rfl) (by kernel_rfl) (by kernel_rfl) (by kernel_rfl)]
  rfl

/-- Clearing the sign bit. -/
theorem abs_bits (b : Nat) (hb : b < 18446744073709551616) : bits .andNot .u64 (b : Int) 9223372036854775808 = ((rg b : Nat) : Int) := by
  have h := u64_andNot_nat b 9223372036854775808 hb (by decide)
  have e : b &&& (18446744073709551615 - 9223372036854775808) = rg b := Nat.and_two_pow_sub_one_eq_mod b 63
  rw [e] at h
  exact h

theorem abs_any (b : Nat) (w : World) (hb : b < 18446744073709551616) :
    Calls Tryd.prog 70 #[.float .f64 b] w fun e w' => e = .returned (.float .f64 (rg b)) ∧ w = w' := by
  have h1 := ext_bits b w
  have h2 := ext_from (rg b : Nat) w
  have h3 := abs_bits b hb
  rw [Int.toNat_natCast] at h2
  go_enter Tryd.func70, Tryd.ntmps70
  go_wp2
  go_ret
  exact ⟨rfl, rfl⟩

theorem signbit_any (b : Nat) (w : World) (hb : b < 18446744073709551616) :
    Calls Tryd.prog 75 #[.float .f64 b] w fun e w' => e = .returned (.bool (sgn b)) ∧ w = w' := by
  have h1 := ext_bits b w
  have h3 : decide (wrap64 (b : Int) < 0) = sgn b := by
    unfold sgn wrap64
    by_cases h : 9223372036854775808 ≤ b
    · rw [decide_eq_true h]; simp; omega
    · rw [decide_eq_false h]; simp; omega
  go_enter Tryd.func75, Tryd.ntmps75
  go_wp2
  go_ret
  exact ⟨rfl, rfl⟩

theorem isnan_any (b : Nat) (w : World) (hb : b < 18446744073709551616) :
    Calls Tryd.prog 73 #[.float .f64 b] w fun e w' => e = .returned (.bool (decide (9218868437227405312 < rg b))) ∧ w = w' := by
  have h : (FloatKind.f64.format.order b b != some .eq) = decide (9218868437227405312 < rg b) := by
    rw [bne, ord_eq hb hb]
    unfold okW
    by_cases h : rg b ≤ 9218868437227405312
    · simp [h]
    · simp [h]; omega
  go_enter Tryd.func73, Tryd.ntmps73
  go_wp2
  go_ret
  exact ⟨rfl, rfl⟩

theorem isinf0_any (b : Nat) (w : World) (hb : b < 18446744073709551616) :
    Calls Tryd.prog 72 #[.float .f64 b, .int .i64 0] w fun e w' => e = .returned (.bool (decide (rg b = 9218868437227405312))) ∧ w = w' := by
  have hr := rg_lt b
  have h : (FloatKind.f64.format.order (rg b) 9218868437227405311 == some .gt) = decide (rg b = 9218868437227405312) := by
    rw [ord_gt (by omega) (by decide)]
    unfold okW keyW
    rw [rg_pos hr, sgn_pos hr, rg_pos (show (9218868437227405311 : Nat) < 9223372036854775808 by decide), sgn_pos (show (9218868437227405311 : Nat) < 9223372036854775808 by decide)]
    by_cases h : rg b = 9218868437227405312
    · simp [h]
    · simp [h]; omega
  have Ka := Lib.hid (fun v => abs_any b v hb)
  go_enter Tryd.func72, Tryd.ntmps72
  go_wp2_with (go_at_call 70; (with_reducible refine (Ka.out _).mono ?_); rintro e w' ⟨rfl, rfl⟩)
  go_ret
  exact ⟨rfl, rfl⟩

theorem isinf1_any (b : Nat) (w : World) (hb : b < 9223372036854775808) :
    Calls Tryd.prog 72 #[.float .f64 b, .int .i64 1] w fun e w' => e = .returned (.bool (decide (b = 9218868437227405312))) ∧ w = w' := by
  have h : (FloatKind.f64.format.order b 9218868437227405311 == some .gt) = decide (b = 9218868437227405312) := by
    rw [ord_gt (by omega) (by decide)]
    unfold okW keyW
    rw [rg_pos hb, sgn_pos hb, rg_pos (show (9218868437227405311 : Nat) < 9223372036854775808 by decide), sgn_pos (show (9218868437227405311 : Nat) < 9223372036854775808 by decide)]
    by_cases h : b = 9218868437227405312
    · simp [h]
    · simp [h]; omega
  go_enter Tryd.func72, Tryd.ntmps72
  go_wp2
  go_ret
  exact ⟨rfl, rfl⟩
end Go.Proofs.YtbpldplbkmabmaaDoor
