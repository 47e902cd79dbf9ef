/- Contracts of package math: normalize, Frexp, of positive finite floats. -/
import Derived.Test.YtbpldplbkmabmaaDoorFlC
namespace Go.Proofs.YtbpldplbkmabmaaDoor
open Go.RowKit

/-- The rung behind normalize, and by how many binades it was raised. -/
def nR (r : Nat) : Nat := if r < 4503599627370496 then r.log2 * 4503599627370496 + r * 2 ^ (52 - r.log2) else r
def nE (r : Nat) : Nat := if r < 4503599627370496 then 52 else 0

theorem nR_facts {r : Nat} (h0 : 0 < r) (h1 : r < 9218868437227405312) : 4503599627370496 ≤ nR r ∧ nR r < 9218868437227405312 ∧ V (nR r) = V r * 2 ^ nE r ∧ nE r ≤ 52 := by
  unfold nR nE
  by_cases h : r < 4503599627370496
  · rw [if_pos h, if_pos h]
    have hL1 : 2 ^ r.log2 ≤ r := Nat.log2_self_le (by omega)
    have hL2 : r < 2 ^ (r.log2 + 1) := Nat.lt_log2_self
    have hL : r.log2 < 52 := by
      refine Nat.lt_of_not_le fun h' => ?_
      have : (2 : Nat) ^ 52 ≤ 2 ^ r.log2 := Nat.pow_le_pow_right (by decide) h'
      have e : (2 : Nat) ^ 52 = 4503599627370496 := by decide
      omega
    generalize r.log2 = L at *
    have hk1 : 2 ^ L * 2 ^ (52 - L) ≤ r * 2 ^ (52 - L) := Nat.mul_le_mul_right _ hL1
    have hk2 : r * 2 ^ (52 - L) < 2 ^ (L + 1) * 2 ^ (52 - L) := Nat.mul_lt_mul_of_pos_right hL2 (Nat.two_pow_pos _)
    rw [← Nat.pow_add, show L + (52 - L) = 52 by omega, show (2 : Nat) ^ 52 = 4503599627370496 from by decide] at hk1
    rw [← Nat.pow_add, show L + 1 + (52 - L) = 53 by omega, show (2 : Nat) ^ 53 = 9007199254740992 from by decide] at hk2
    refine ⟨by omega, by omega, ?_, by omega⟩
    rw [V_at (by omega) (Or.inr hk1)]
    unfold V
    rw [if_pos h, Nat.mul_assoc, ← Nat.pow_add, show 52 - L + L = 52 by omega]
  · rw [if_neg h, if_neg h]
    exact ⟨by omega, h1, by simp, by omega⟩

theorem mul_words {a b m n e f : Nat} {s t : Bool} (r1 : Ieee.double.read a = .number s m ((e : Int) - 1074)) (r2 : Ieee.double.read b = .number t n ((f : Int) - 1074)) :
    floatBits .mul .f64 a b = some (Ieee.double.nearest (s ^^ t) (m * n) ((e : Int) - 1074 + ((f : Int) - 1074))) := by
  show Ieee.double.mul a b = _
  unfold Ieee.Format.mul
  rw [r1, r2]
  rfl

theorem norm_mul {b : Nat} (h0 : 0 < b) (h1 : b < 4503599627370496) : floatBits .mul .f64 b 4841369599423283200 = some (nR b) := by
  have r1 : Ieee.double.read b = .number false b ((0 : Nat) - 1074) := by
    rw [read_word b (by omega), rg_pos (by omega), if_pos h1, sgn_pos (by omega)]; rfl
  have r2 : Ieee.double.read 4841369599423283200 = .number false 4503599627370496 ((1074 : Nat) - 1074) := by decide
  rw [mul_words r1 r2]
  obtain ⟨r, hr, he⟩ := nearest_is false (b * 4503599627370496) 0 0 (by omega)
  obtain ⟨f1, f2, f3, -⟩ := nR_facts h0 (by omega)
  have e : r = nR b := near_of_exact (by decide) hr (by
    rw [f3]; unfold V nE; rw [if_pos h1, if_pos h1])
  rw [e, word_mkW] at he
  have e2 : min (nR b) 9218868437227405312 = nR b := by omega
  rw [e2] at he
  exact congrArg some he

theorem normalize_any (b : Nat) (w : World) (h0 : 0 < b) (h1 : b < 9218868437227405312) :
    Calls Tryd.prog 98 #[.float .f64 b] w fun e w' => e = .returned (.tuple #[.float .f64 (nR b), .int .i64 (-(nE b : Int))]) ∧ w = w' := by
  have Ka := Lib.hid (fun v => abs_any b v (by omega))
  have hr : rg b = b := rg_pos (by omega)
  rw [hr] at Ka
  have ho : (FloatKind.f64.format.order b 4503599627370496 == some .lt) = decide (b < 4503599627370496) := by
    rw [ord_lt (by omega) (by decide)]
    unfold okW keyW
    rw [hr, sgn_pos (show b < 9223372036854775808 by omega), rg_pos (show (4503599627370496 : Nat) < 9223372036854775808 by decide), sgn_pos (show (4503599627370496 : Nat) < 9223372036854775808 by decide)]
    by_cases h : b < 4503599627370496
    · simp [h]; omega
    · simp [h]; omega
  by_cases h : b < 4503599627370496
  · have hm := run_float_arith (P := Tryd.prog) w .mul 23 .f64 b 4841369599423283200 (nR b) (norm_mul h0 h)
    rw [decide_eq_true h] at ho
    have e1 : (-(nE b : Int)) = -52 := by unfold nE; rw [if_pos h]; rfl
    rw [e1]
    generalize nR b = R at *
    clear e1 h0 h1 h hr
    go_enter Tryd.func98, Tryd.ntmps98
    go_wp2_with (go_at_call 70; (with_reducible refine (Ka.out _).mono ?_); rintro e w' ⟨rfl, rfl⟩)
    go_ret2
    exact ⟨rfl, rfl⟩
  · rw [decide_eq_false h] at ho
    have e1 : (-(nE b : Int)) = 0 := by unfold nE; rw [if_neg h]; rfl
    have e2 : nR b = b := by unfold nR; rw [if_neg h]
    rw [e1, e2]
    clear e1 e2 h0 h1 h hr
    go_enter Tryd.func98, Tryd.ntmps98
    go_wp2_with (go_at_call 70; (with_reducible refine (Ka.out _).mono ?_); rintro e w' ⟨rfl, rfl⟩)
    go_ret2
    exact ⟨rfl, rfl⟩

/-- The exponent's bits. -/
theorem exp_bits {R : Nat} (h : R < 9218868437227405312) : bits .and .u64 ((R : Int) / 4503599627370496) 2047 = ((R / 4503599627370496 : Nat) : Int) := by
  have h2 := u64_and_nat (R / 4503599627370496) 2047 (by omega) (by decide)
  rw [show R / 4503599627370496 &&& 2047 = R / 4503599627370496 % 2048 from Nat.and_two_pow_sub_one_eq_mod _ 11, Nat.mod_eq_of_lt (by omega)] at h2
  rw [← h2]; rfl

theorem frac_bits {R : Nat} (h : R < 9223372036854775808) : bits .andNot .u64 (R : Int) 9218868437227405312 = ((R % 4503599627370496 : Nat) : Int) := by
  have h2 := u64_andNot_nat R 9218868437227405312 (by omega) (by decide)
  have e : R &&& (18446744073709551615 - 9218868437227405312) = R % 4503599627370496 := by
    have h3 : R &&& 9223372036854775807 = R := by
      rw [show R &&& 9223372036854775807 = R % 9223372036854775808 from Nat.and_two_pow_sub_one_eq_mod _ 63, Nat.mod_eq_of_lt h]
    rw [← h3, Nat.and_assoc]
    rw [show 9223372036854775807 &&& (18446744073709551615 - 9218868437227405312) = 4503599627370495 from by decide]
    rw [h3]
    exact Nat.and_two_pow_sub_one_eq_mod _ 52
  rw [e] at h2
  exact h2

theorem put_exp {f k : Nat} (hf : f < 4503599627370496) (hk : k < 4096) : bits .or .u64 (f : Int) ((k * 4503599627370496 : Nat) : Int) = ((k * 4503599627370496 + f : Nat) : Int) := by
  have h2 := u64_or_nat f (k * 4503599627370496) (by omega) (by omega)
  rw [Nat.or_comm, nat_join 52 (k * 4503599627370496) f (by rw [show (2 : Nat) ^ 52 = 4503599627370496 from by decide]; omega) (by rw [show (2 : Nat) ^ 52 = 4503599627370496 from by decide]; exact hf)] at h2
  exact h2

theorem ret_x_int {x : Value} {k : IntKind} {a b : Int} (h : a = b) : Ending.returned (.tuple #[x, .int k a]) = .returned (.tuple #[x, .int k b]) := by rw [h]

set_option maxRecDepth 100000 in
theorem frexp_in (b : Nat) (w : World) (h0 : 0 < b) (h1 : b < 9218868437227405312) :
    Calls Tryd.prog 96 #[.float .f64 b] w fun e w' => e = .returned (.tuple #[.float .f64 (4602678819172646912 + nR b % 4503599627370496), .int .i64 ((nR b / 4503599627370496 : Nat) - 1022 - (nE b : Int))]) ∧ w = w' := by
  obtain ⟨f1, f2, -, f4⟩ := nR_facts h0 h1
  have Kn := Lib.hid (fun v => normalize_any b v h0 h1)
  have Ki := Lib.hid (fun v => isinf0_any b v (by omega))
  have Ka := Lib.hid (fun v => isnan_any b v (by omega))
  have hr : rg b = b := rg_pos (by omega)
  rw [hr, decide_eq_false (show ¬ b = 9218868437227405312 by omega)] at Ki
  rw [hr, decide_eq_false (show ¬ 9218868437227405312 < b by omega)] at Ka
  have ho : (FloatKind.f64.format.order b 0 == some .eq) = false := by
    rw [ord_eq (by omega) (by decide)]
    unfold keyW
    rw [hr, sgn_pos (show b < 9223372036854775808 by omega), rg_pos (show (0 : Nat) < 9223372036854775808 by decide), sgn_pos (show (0 : Nat) < 9223372036854775808 by decide)]
    simp; omega
  have hx := exp_bits f2
  have hf := frac_bits (R := nR b) (by omega)
  have hj := put_exp (f := nR b % 4503599627370496) (k := 1022) (Nat.mod_lt _ (by decide)) (by decide)
  have hb := ext_bits (nR b) w
  have he : nR b / 4503599627370496 ≤ 2046 := by omega
  generalize hE : nR b / 4503599627370496 = E at *
  generalize hF : nR b % 4503599627370496 = F at *
  have hFl : F < 4503599627370496 := by omega
  have hfr := ext_from (4602678819172646912 + (F : Int)) w
  rw [show (4602678819172646912 + (F : Int)).toNat = 4602678819172646912 + F by omega] at hfr
  rw [show 1022 * 4503599627370496 = 4602678819172646912 from by decide] at hj
  have hj2 : bits .or .u64 (F : Int) 4602678819172646912 = ((4602678819172646912 + F : Nat) : Int) := hj
  clear hj
  have hRl : nR b < 9218868437227405312 := f2
  generalize nR b = R at *
  generalize nE b = N at *
  clear h0 h1 hr hE hF f1 f2
  go_enter Tryd.func96, Tryd.ntmps96
  go_wp2_with (first | (go_at_call 72; (with_reducible refine (Ki.out _).mono ?_); rintro e w' ⟨rfl, rfl⟩) | (go_at_call 73; (with_reducible refine (Ka.out _).mono ?_); rintro e w' ⟨rfl, rfl⟩) | (go_at_call 98; (with_reducible refine (Kn.out _).mono ?_); rintro e w' ⟨rfl, rfl⟩))
  go_ret2
  exact ⟨ret_x_int (by omega), rfl⟩

theorem frexp_any (b : Nat) (w : World) (h0 : 0 < b) (h1 : b < 9218868437227405312) :
    Calls Tryd.prog 69 #[.float .f64 b] w fun e w' => e = .returned (.tuple #[.float .f64 (4602678819172646912 + nR b % 4503599627370496), .int .i64 ((nR b / 4503599627370496 : Nat) - 1022 - (nE b : Int))]) ∧ w = w' := by
  have K := Lib.hid (fun v => frexp_in b v h0 h1)
  clear h0 h1
  generalize nR b = R at *
  generalize nE b = N at *
  go_enter Tryd.func69, Tryd.ntmps69
  go_wp2_with (go_at_call 96; (with_reducible refine (K.out _).mono ?_); rintro e w' ⟨rfl, rfl⟩)
  go_ret2
  exact ⟨rfl, rfl⟩
end Go.Proofs.YtbpldplbkmabmaaDoor
