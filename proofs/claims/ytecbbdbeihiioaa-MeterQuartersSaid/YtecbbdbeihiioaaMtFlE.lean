/- Contracts of package math: Copysign, Ldexp, of positive finite floats. -/
import Derived.Test.YtecbbdbeihiioaaMtFlC
namespace Go.Proofs.Ytecbbdbeihiioaa
open Go.RowKit

theorem sign_bits (b : Nat) (hb : b < 18446744073709551616) : bits .and .u64 (b : Int) 9223372036854775808 = ((if sgn b then 9223372036854775808 else 0 : Nat) : Int) := by
  have h := u64_and_nat b 9223372036854775808 hb (by decide)
  have e : b &&& 9223372036854775808 = if sgn b then 9223372036854775808 else 0 := by
    rw [show (9223372036854775808 : Nat) = 2 ^ 63 from by decide, nat_bit 63 b]
    unfold sgn
    by_cases h : 9223372036854775808 ≤ b
    · rw [decide_eq_true h, show b / 2 ^ 63 % 2 = 1 from by rw [show (2 : Nat) ^ 63 = 9223372036854775808 from by decide]; omega]; rfl
    · rw [decide_eq_false h, show b / 2 ^ 63 % 2 = 0 from by rw [show (2 : Nat) ^ 63 = 9223372036854775808 from by decide]; omega]; rfl
  rw [e] at h
  exact h

theorem put_sign (s : Bool) {r : Nat} (hr : r < 9223372036854775808) : bits .or .u64 (r : Int) ((if s then 9223372036854775808 else 0 : Nat) : Int) = ((mkW s r : Nat) : Int) := by
  have h2 := u64_or_nat r (if s then 9223372036854775808 else 0) (by omega) (by split <;> omega)
  have e : r ||| (if s then 9223372036854775808 else 0) = mkW s r := by
    unfold mkW
    cases s
    · simp
    · rw [Nat.or_comm]
      exact nat_join 63 9223372036854775808 r (by decide) (by rw [show (2 : Nat) ^ 63 = 9223372036854775808 from by decide]; exact hr)
  rw [e] at h2
  exact h2

theorem copysign_any (f s : Nat) (w : World) (hf : f < 18446744073709551616) (hs : s < 18446744073709551616) :
    Calls Try.prog 47 #[.float .f64 f, .float .f64 s] w fun e w' => e = .returned (.float .f64 (mkW (sgn s) (rg f))) ∧ w = w' := by
  have h1 := ext_bits f w
  have h2 := ext_bits s w
  have h3 := abs_bits f hf
  have h4 := sign_bits s hs
  have h5 := put_sign (sgn s) (rg_lt f)
  have h6 := ext_from ((mkW (sgn s) (rg f) : Nat) : Int) w
  rw [Int.toNat_natCast] at h6
  generalize ((if sgn s then 9223372036854775808 else 0 : Nat) : Int) = sg at *
  go_enter Try.func47, Try.ntmps47
  go_wp2
  go_ret
  exact ⟨rfl, rfl⟩

theorem inf1_any (w : World) : Calls Try.prog 48 #[.int .i64 1] w fun e w' => e = .returned (.float .f64 9218868437227405312) ∧ w = w' := by
  have h6 := ext_from 9218868437227405312 w
  rw [show (9218868437227405312 : Int).toNat = 9218868437227405312 from rfl] at h6
  go_enter Try.func48, Try.ntmps48
  go_wp2
  go_ret
  exact ⟨rfl, rfl⟩

theorem exp_bits_i {E : Nat} (h : E ≤ 2047) : bits .and .i64 (E : Int) 2047 = (E : Int) := by
  have h127 : (BitVec.ofInt 64 2047).toNat = 2 ^ 11 - 1 := by decide
  have key : (BitVec.ofInt 64 (E : Int) &&& BitVec.ofInt 64 2047).toNat = ((E : Int) % ((2 ^ 64 : Nat) : Int)).toNat % 2 ^ 11 := by
    rw [BitVec.toNat_and, BitVec.toNat_ofInt, h127, Nat.and_two_pow_sub_one_eq_mod]
  show IntKind.i64.wrap ((BitVec.ofInt 64 (E : Int) &&& BitVec.ofInt 64 2047).toNat : Nat) = (E : Int)
  rw [key, IntKind.wrap_i64]
  omega

theorem ext_from_eq (n : Int) (m : Nat) (h : n = (m : Int)) (w : World) : (callFunc 34 #[.int .u64 n]).run Try.prog w = .ok (.value (.float .f64 m)) w := by
  subst h
  exact ext_from m w

/-- Ldexp of a positive finite float is rounded once. -/
def LdexpRes (b : Nat) (a c : Nat) (w : World) (e : Ending) (w' : World) : Prop :=
  ∃ r, e = .returned (.float .f64 (min r 9218868437227405312)) ∧ IsNear (V b * 2 ^ a) (2 ^ c) r ∧ w = w'

theorem near_ratio {p q p' q' r : Nat} (hq : 0 < q) (hq' : 0 < q') (h : IsNear p q r) (he : p * q' = p' * q) : IsNear p' q' r := by
  have h1 := (near_scale q' hq').2 h
  rw [he, Nat.mul_comm q q'] at h1
  exact (near_scale q hq).1 h1

theorem ldexp_scale {x M N a c E k d : Nat} (hv : x * 2 ^ N = M * 2 ^ E) (h : k + c + N = a + E + d) : M * 2 ^ k * 2 ^ c = x * 2 ^ a * 2 ^ d := by
  apply Nat.mul_right_cancel (Nat.two_pow_pos N)
  have e1 : M * 2 ^ k * 2 ^ c * 2 ^ N = M * 2 ^ (k + c + N) := by rw [Nat.mul_assoc, Nat.mul_assoc, ← Nat.mul_assoc (2 ^ k), ← Nat.pow_add, ← Nat.pow_add]
  have e2 : x * 2 ^ a * 2 ^ d * 2 ^ N = x * 2 ^ N * 2 ^ (a + d) := by
    rw [Nat.pow_add, Nat.mul_assoc x (2 ^ N), Nat.mul_assoc, Nat.mul_assoc]
    congr 1
    rw [Nat.mul_comm (2 ^ N), Nat.mul_assoc]
  rw [e1, e2, hv, Nat.mul_assoc, ← Nat.pow_add, h, show a + E + d = E + (a + d) by omega]

theorem ldexp_zero {x M N a c E : Nat} (hv : x * 2 ^ N = M * 2 ^ E) (hM : M < 9007199254740992) (h : a + E + 54 ≤ c + N) : IsNear (x * 2 ^ a) (2 ^ c) 0 := by
  refine ⟨fun s hs => by omega, ?_, fun _ => rfl⟩
  have e0 : V 0 + V (0 + 1) = 1 := by decide
  rw [e0, Nat.one_mul]
  refine Nat.le_of_mul_le_mul_right ?_ (Nat.two_pow_pos N)
  have e1 : 2 * (x * 2 ^ a) * 2 ^ N = 2 * M * 2 ^ (a + E) := by
    rw [Nat.mul_assoc, Nat.mul_assoc x, Nat.mul_comm (2 ^ a), ← Nat.mul_assoc x, hv, Nat.mul_assoc M, ← Nat.pow_add, Nat.add_comm E a, Nat.mul_assoc]
  have e2 : 2 * M * 2 ^ (a + E) ≤ 2 ^ 54 * 2 ^ (a + E) := Nat.mul_le_mul_right _ (by have : (2 : Nat) ^ 54 = 18014398509481984 := by decide
                                                                                     omega)
  rw [e1]
  refine Nat.le_trans e2 ?_
  rw [← Nat.pow_add, ← Nat.pow_add]
  exact Nat.pow_le_pow_right (by decide) (by omega)
end Go.Proofs.Ytecbbdbeihiioaa
