/- Contracts of package math: Abs, Signbit, IsNaN, IsInf. -/
import Derived.Test.YtecbbdbeihiioaaFlB
import Derived.Test.YtecbbdbeihiioaaNatD
import Derived.Laws.BitsAllLaws
namespace Go.Proofs.Ytecbbdbeihiioaa
open Go.RowKit

theorem ext_bits (b : Nat) (w : World) : (callFunc 46 #[.float .f64 b]).run Try.prog w = .ok (.value (.int .u64 b)) w := by
  rw [run_callFunc_extern (e := Extern.MathFloatBits.float64bits) Try.func46 (by kernel_rfl) (by kernel_rfl) (by kernel_rfl) (by kernel_rfl)]
  rfl

theorem ext_from (n : Int) (w : World) : (callFunc 34 #[.int .u64 n]).run Try.prog w = .ok (.value (.float .f64 n.toNat)) w := by
  rw [run_callFunc_extern (e := Extern.MathFloatBits.float64frombits) Try.func34 (by kernel_rfl) (by kernel_rfl) (by kernel_rfl) (by kernel_rfl)]
  rfl

/-- Clearing the sign bit. -/
theorem abs_bits (b : Nat) (hb : b < 18446744073709551616) : bits .andNot .u64 (b : Int) 9223372036854775808 = ((rg b : Nat) : Int) := by
  have h := u64_andNot_nat b 9223372036854775808 hb (by decide)
  have e : b &&& (18446744073709551615 - 9223372036854775808) = rg b := Nat.and_two_pow_sub_one_eq_mod b 63
  rw [e] at h
  exact h

theorem abs_any (b : Nat) (w : World) (hb : b < 18446744073709551616) :
    Calls Try.prog 22 #[.float .f64 b] w fun e w' => e = .returned (.float .f64 (rg b)) ∧ w = w' := by
  have h1 := ext_bits b w
  have h2 := ext_from (rg b : Nat) w
  have h3 := abs_bits b hb
  rw [Int.toNat_natCast] at h2
  go_enter Try.func22, Try.ntmps22
  go_wp2
  go_ret
  exact ⟨rfl, rfl⟩

theorem isnan_any (b : Nat) (w : World) (hb : b < 18446744073709551616) :
    Calls Try.prog 36 #[.float .f64 b] w fun e w' => e = .returned (.bool (decide (9218868437227405312 < rg b))) ∧ w = w' := by
  have h : (FloatKind.f64.format.order b b != some .eq) = decide (9218868437227405312 < rg b) := by
    rw [bne, ord_eq hb hb]
    unfold okW
    by_cases h : rg b ≤ 9218868437227405312
    · simp [h]
    · simp [h]; omega
  go_enter Try.func36, Try.ntmps36
  go_wp2
  go_ret
  exact ⟨rfl, rfl⟩

theorem isinf0_any (b : Nat) (w : World) (hb : b < 18446744073709551616) :
    Calls Try.prog 64 #[.float .f64 b, .int .i64 0] w fun e w' => e = .returned (.bool (decide (rg b = 9218868437227405312))) ∧ w = w' := by
  have hr := rg_lt b
  have h : (FloatKind.f64.format.order (rg b) 9218868437227405311 == some .gt) = decide (rg b = 9218868437227405312) := by
    rw [ord_gt (by omega) (by decide)]
    unfold okW keyW
    rw [rg_pos hr, sgn_pos hr, rg_pos (show (9218868437227405311 : Nat) < 9223372036854775808 by decide), sgn_pos (show (9218868437227405311 : Nat) < 9223372036854775808 by decide)]
    by_cases h : rg b = 9218868437227405312
    · simp [h]
    · simp [h]; omega
  have Ka := Lib.hid (fun v => abs_any b v hb)
  go_enter Try.func64, Try.ntmps64
  go_wp2_with (go_at_call 22; (with_reducible refine (Ka.out _).mono ?_); rintro e w' ⟨rfl, rfl⟩)
  go_ret
  exact ⟨rfl, rfl⟩

theorem isinf1_any (b : Nat) (w : World) (hb : b < 9223372036854775808) :
    Calls Try.prog 64 #[.float .f64 b, .int .i64 1] w fun e w' => e = .returned (.bool (decide (b = 9218868437227405312))) ∧ w = w' := by
  have h : (FloatKind.f64.format.order b 9218868437227405311 == some .gt) = decide (b = 9218868437227405312) := by
    rw [ord_gt (by omega) (by decide)]
    unfold okW keyW
    rw [rg_pos hb, sgn_pos hb, rg_pos (show (9218868437227405311 : Nat) < 9223372036854775808 by decide), sgn_pos (show (9218868437227405311 : Nat) < 9223372036854775808 by decide)]
    by_cases h : b = 9218868437227405312
    · simp [h]
    · simp [h]; omega
  go_enter Try.func64, Try.ntmps64
  go_wp2
  go_ret
  exact ⟨rfl, rfl⟩
end Go.Proofs.Ytecbbdbeihiioaa
