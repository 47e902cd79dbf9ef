/- Contracts of package math: Copysign, Ldexp, of positive finite floats. -/
import Derived.Test.YtbpldplbkmabmaaDoorFlD
namespace Go.Proofs.YtbpldplbkmabmaaDoor
open Go.RowKit

theorem sign_bits (b : Nat) (hb : b < 18446744073709551616) : bits .and .u64 (b : Int) 9223372036854775808 = ((if sgn b then 9223372036854775808 else 0 : Nat) : Int) := by
  have h := u64_and_nat b 9223372036854775808 hb (by decide)
  have e : b &&& 9223372036854775808 = if sgn b then 9223372036854775808 else 0 := by
    rw [show (9223372036854775808 : Nat) = 2 ^ 63 from by decide, nat_bit 63 b]
    unfold sgn
    by_cases h : 9223372036854775808 ≤ b
    · rw [decide_eq_true h, show b / 2 ^ 63 % 2 = 1 from by rw [show (2 : Nat) ^ 63 = 9223372036854775808 from by decide]; omega]; rfl
    · rw [decide_eq_false h, show b / 2 ^ 63 % 2 = 0 from by rw [show (2 : Nat) ^ 63 = 9223372036854775808 from by decide]; omega]; rfl
  rw [e] at h
  exact h

theorem put_sign (s : Bool) {r : Nat} (hr : r < 9223372036854775808) : bits .or .u64 (r : Int) ((if s then 9223372036854775808 else 0 : Nat) : Int) = ((mkW s r : Nat) : Int) := by
  have h2 := u64_or_nat r (if s then 9223372036854775808 else 0) (by omega) (by split <;> omega)
  have e : r ||| (if s then 9223372036854775808 else 0) = mkW s r := by
    unfold mkW
    cases s
    · simp
    · rw [Nat.or_comm]
      exact nat_join 63 9223372036854775808 r (by decide) (by rw [show (2 : Nat) ^ 63 = 9223372036854775808 from by decide]; exact hr)
  rw [e] at h2
  exact h2

theorem copysign_any (f s : Nat) (w : World) (hf : f < 18446744073709551616) (hs : s < 18446744073709551616) :
    Calls Tryd.prog 21 #[.float .f64 f, .float .f64 s] w fun e w' => e = .returned (.float .f64 (mkW (sgn s) (rg f))) ∧ w = w' := by
  have h1 := ext_bits f w
  have h2 := ext_bits s w
  have h3 := abs_bits f hf
  have h4 := sign_bits s hs
  have h5 := put_sign (sgn s) (rg_lt f)
  have h6 := ext_from ((mkW (sgn s) (rg f) : Nat) : Int) w
  rw [Int.toNat_natCast] at h6
  generalize ((if sgn s then 9223372036854775808 else 0 : Nat) : Int) = sg at *
  go_enter Tryd.func21, Tryd.ntmps21
  go_wp2
  go_ret
  exact ⟨rfl, rfl⟩

theorem inf1_any (w : World) : Calls Tryd.prog 99 #[.int .i64 1] w fun e w' => e = .returned (.float .f64 9218868437227405312) ∧ w = w' := by
  have h6 := ext_from 9218868437227405312 w
  rw [show (9218868437227405312 : Int).toNat = 9218868437227405312 from rfl] at h6
  go_enter Tryd.func99, Tryd.ntmps99
  go_wp2
  go_ret
  exact ⟨rfl, rfl⟩

theorem ldexp_one {E F : Nat} (hE : 0 < E) (hE2 : E ≤ 2046) (hF : F < 4503599627370496) : floatBits .mul .f64 4607182418800017408 (E * 4503599627370496 + F) = some (E * 4503599627370496 + F) := by
  have r1 : Ieee.double.read 4607182418800017408 = .number false 4503599627370496 ((1022 : Nat) - 1074) := by decide
  have r2 : Ieee.double.read (E * 4503599627370496 + F) = .number false (4503599627370496 + F) (((E - 1 : Nat) : Int) - 1074) := by
    rw [read_norm (by omega) (by rw [rg_pos (by omega)]; omega) (by rw [rg_pos (by omega)]; omega), rg_pos (by omega), sgn_pos (by omega)]
    rw [show (E * 4503599627370496 + F) % 4503599627370496 = F by omega, show (E * 4503599627370496 + F) / 4503599627370496 = E by omega]
  rw [mul_words r1 r2]
  obtain ⟨r, hr, he⟩ := nearest_is false (4503599627370496 * (4503599627370496 + F)) (E - 1) 52 (Nat.mul_pos (by decide) (by omega))
  have e : r = E * 4503599627370496 + F := near_of_exact (by decide) hr (by
    rw [show E * 4503599627370496 + F = (E - 1) * 4503599627370496 + (4503599627370496 + F) by omega, V_at (by omega) (Or.inr (by omega))]
    rw [show (2 : Nat) ^ 52 = 4503599627370496 from by decide, Nat.mul_comm _ 4503599627370496, Nat.mul_assoc])
  rw [e, word_mkW, show min (E * 4503599627370496 + F) 9218868437227405312 = E * 4503599627370496 + F by omega] at he
  rw [show ((1022 : Nat) : Int) - 1074 + (((E - 1 : Nat) : Int) - 1074) = ((E - 1 : Nat) : Int) - ((52 : Nat) : Int) - 1074 by omega]
  exact congrArg some he

theorem ldexp_low {E F : Nat} (hE : 0 < E) (hE2 : E ≤ 2046) (hF : F < 4503599627370496) :
    ∃ r, floatBits .mul .f64 4368491638549381120 (E * 4503599627370496 + F) = some (min r 9218868437227405312) ∧ IsNear ((4503599627370496 + F) * 2 ^ (E - 1)) (2 ^ 53) r := by
  have r1 : Ieee.double.read 4368491638549381120 = .number false 4503599627370496 ((969 : Nat) - 1074) := by decide
  have r2 : Ieee.double.read (E * 4503599627370496 + F) = .number false (4503599627370496 + F) (((E - 1 : Nat) : Int) - 1074) := by
    rw [read_norm (by omega) (by rw [rg_pos (by omega)]; omega) (by rw [rg_pos (by omega)]; omega), rg_pos (by omega), sgn_pos (by omega)]
    rw [show (E * 4503599627370496 + F) % 4503599627370496 = F by omega, show (E * 4503599627370496 + F) / 4503599627370496 = E by omega]
  rw [mul_words r1 r2]
  obtain ⟨r, hr, he⟩ := nearest_is false (4503599627370496 * (4503599627370496 + F)) (E - 1) 105 (Nat.mul_pos (by decide) (by omega))
  refine ⟨r, ?_, ?_⟩
  · rw [word_mkW] at he
    rw [show ((969 : Nat) : Int) - 1074 + (((E - 1 : Nat) : Int) - 1074) = ((E - 1 : Nat) : Int) - ((105 : Nat) : Int) - 1074 by omega]
    exact congrArg some he
  · rw [Nat.mul_assoc, Nat.mul_comm 4503599627370496, show (2 : Nat) ^ 105 = 2 ^ 53 * 4503599627370496 from by decide] at hr
    exact (near_scale 4503599627370496 (by decide)).1 hr

theorem exp_bits_i {E : Nat} (h : E ≤ 2047) : bits .and .i64 (E : Int) 2047 = (E : Int) := by
  have h127 : (BitVec.ofInt 64 2047).toNat = 2 ^ 11 - 1 := by decide
  have key : (BitVec.ofInt 64 (E : Int) &&& BitVec.ofInt 64 2047).toNat = ((E : Int) % ((2 ^ 64 : Nat) : Int)).toNat % 2 ^ 11 := by
    rw [BitVec.toNat_and, BitVec.toNat_ofInt, h127, Nat.and_two_pow_sub_one_eq_mod]
  show IntKind.i64.wrap ((BitVec.ofInt 64 (E : Int) &&& BitVec.ofInt 64 2047).toNat : Nat) = (E : Int)
  rw [key, IntKind.wrap_i64]
  omega

theorem ext_from_eq (n : Int) (m : Nat) (h : n = (m : Int)) (w : World) : (callFunc 52 #[.int .u64 n]).run Tryd.prog w = .ok (.value (.float .f64 m)) w := by
  subst h
  exact ext_from m w

/-- Ldexp of a positive finite float is rounded once. -/
def LdexpRes (b : Nat) (a c : Nat) (w : World) (e : Ending) (w' : World) : Prop :=
  ∃ r, e = .returned (.float .f64 (min r 9218868437227405312)) ∧ IsNear (V b * 2 ^ a) (2 ^ c) r ∧ w = w'

theorem near_ratio {p q p' q' r : Nat} (hq : 0 < q) (hq' : 0 < q') (h : IsNear p q r) (he : p * q' = p' * q) : IsNear p' q' r := by
  have h1 := (near_scale q' hq').2 h
  rw [he, Nat.mul_comm q q'] at h1
  exact (near_scale q hq).1 h1

theorem ldexp_scale {x M N a c E k d : Nat} (hv : x * 2 ^ N = M * 2 ^ E) (h : k + c + N = a + E + d) : M * 2 ^ k * 2 ^ c = x * 2 ^ a * 2 ^ d := by
  apply Nat.mul_right_cancel (Nat.two_pow_pos N)
  have e1 : M * 2 ^ k * 2 ^ c * 2 ^ N = M * 2 ^ (k + c + N) := by rw [Nat.mul_assoc, Nat.mul_assoc, ← Nat.mul_assoc (2 ^ k), ← Nat.pow_add, ← Nat.pow_add]
  have e2 : x * 2 ^ a * 2 ^ d * 2 ^ N = x * 2 ^ N * 2 ^ (a + d) := by
    rw [Nat.pow_add, Nat.mul_assoc x (2 ^ N), Nat.mul_assoc, Nat.mul_assoc]
    congr 1
    rw [Nat.mul_comm (2 ^ N), Nat.mul_assoc]
  rw [e1, e2, hv, Nat.mul_assoc, ← Nat.pow_add, h, show a + E + d = E + (a + d) by omega]

theorem ldexp_zero {x M N a c E : Nat} (hv : x * 2 ^ N = M * 2 ^ E) (hM : M < 9007199254740992) (h : a + E + 54 ≤ c + N) : IsNear (x * 2 ^ a) (2 ^ c) 0 := by
  refine ⟨fun s hs => by omega, ?_, fun _ => rfl⟩
  have e0 : V 0 + V (0 + 1) = 1 := by decide
  rw [e0, Nat.one_mul]
  refine Nat.le_of_mul_le_mul_right ?_ (Nat.two_pow_pos N)
  have e1 : 2 * (x * 2 ^ a) * 2 ^ N = 2 * M * 2 ^ (a + E) := by
    rw [Nat.mul_assoc, Nat.mul_assoc x, Nat.mul_comm (2 ^ a), ← Nat.mul_assoc x, hv, Nat.mul_assoc M, ← Nat.pow_add, Nat.add_comm E a, Nat.mul_assoc]
  have e2 : 2 * M * 2 ^ (a + E) ≤ 2 ^ 54 * 2 ^ (a + E) := Nat.mul_le_mul_right _ (by have : (2 : Nat) ^ 54 = 18014398509481984 := by decide
                                                                                     omega)
  rw [e1]
  refine Nat.le_trans e2 ?_
  rw [← Nat.pow_add, ← Nat.pow_add]
  exact Nat.pow_le_pow_right (by decide) (by omega)

set_option maxHeartbeats 4000000 in
set_option maxRecDepth 100000 in
theorem ldexp_in (b a c : Nat) (p : Int) (w : World) (h0 : 0 < b) (h1 : b < 9218868437227405312) (hp : p = (a : Int) - (c : Int)) (hp1 : -1000000 ≤ p) (hp2 : p ≤ 1000000) :
    Calls Tryd.prog 82 #[.float .f64 b, .int .i64 p] w (LdexpRes b a c w) := by
  obtain ⟨f1, f2, f3, f4⟩ := nR_facts h0 h1
  have Hp := Lib.hid hp
  clear hp
  have Kn := Lib.hid (fun v => normalize_any b v h0 h1)
  have Ki := Lib.hid (fun v => isinf0_any b v (by omega))
  have Ka := Lib.hid (fun v => isnan_any b v (by omega))
  have hr : rg b = b := rg_pos (by omega)
  rw [hr, decide_eq_false (show ¬ b = 9218868437227405312 by omega)] at Ki
  rw [hr, decide_eq_false (show ¬ 9218868437227405312 < b by omega)] at Ka
  have ho : (FloatKind.f64.format.order b 0 == some .eq) = false := by
    rw [ord_eq (by omega) (by decide)]
    unfold keyW
    rw [hr, sgn_pos (show b < 9223372036854775808 by omega), rg_pos (show (0 : Nat) < 9223372036854775808 by decide), sgn_pos (show (0 : Nat) < 9223372036854775808 by decide)]
    simp; omega
  have hx : ((nR b : Nat) : Int) / 4503599627370496 = ((nR b / 4503599627370496 : Nat) : Int) := by omega
  have hf := frac_bits (R := nR b) (by omega)
  have hb := ext_bits (nR b) w
  have he : nR b / 4503599627370496 ≤ 2046 := by omega
  have he1 : 0 < nR b / 4503599627370496 := by omega
  have hV : nR b = nR b / 4503599627370496 * 4503599627370496 + nR b % 4503599627370496 := by omega
  have hei := exp_bits_i (E := nR b / 4503599627370496) (by omega)
  generalize hE : nR b / 4503599627370496 = E at *
  generalize hF : nR b % 4503599627370496 = F at *
  have hFl : F < 4503599627370496 := by omega
  have HV : Hid (V b * 2 ^ nE b = (4503599627370496 + F) * 2 ^ (E - 1)) := Lib.hid (by
    rw [← f3, hV, show E * 4503599627370496 + F = (E - 1) * 4503599627370496 + (4503599627370496 + F) by omega, V_at (by omega) (Or.inr (by omega))])
  generalize hN : nE b = N at *
  have hrr : (FloatKind.f64.format.order (nR b) 0 == some .lt) = false := by
    rw [ord_lt (by omega) (by decide)]
    unfold keyW
    rw [rg_pos (show nR b < 9223372036854775808 by omega), sgn_pos (show nR b < 9223372036854775808 by omega), rg_pos (show (0 : Nat) < 9223372036854775808 by decide), sgn_pos (show (0 : Nat) < 9223372036854775808 by decide)]
    simp
  generalize nR b = R at *
  clear hE hF hN h0 h1 hr f3 hV
  have Kc := Lib.hid (fun v => copysign_any 0 R v (by decide) (by omega))
  rw [sgn_pos (show R < 9223372036854775808 by omega), show rg 0 = 0 from rfl, show mkW false 0 = 0 from rfl] at Kc
  unfold LdexpRes
  by_cases c1 : p + -(N : Int) + ((E : Int) - 1023) < -1075
  · have Hz : Hid (IsNear (V b * 2 ^ a) (2 ^ c) 0) := Lib.hid (ldexp_zero HV.out (by omega) (by have := Hp.out; omega))
    go_enter Tryd.func82, Tryd.ntmps82
    go_wp2_with (first | (go_at_call 72; (with_reducible refine (Ki.out _).mono ?_); rintro e w' ⟨rfl, rfl⟩) | (go_at_call 73; (with_reducible refine (Ka.out _).mono ?_); rintro e w' ⟨rfl, rfl⟩) | (go_at_call 98; (with_reducible refine (Kn.out _).mono ?_); rintro e w' ⟨rfl, rfl⟩) | (go_at_call 21; (with_reducible refine (Kc.out _).mono ?_); rintro e w' ⟨rfl, rfl⟩) | (go_at_call 99; (with_reducible refine (inf1_any _).mono ?_); rintro e w' ⟨rfl, rfl⟩))
    go_ret
    exact ⟨0, rfl, Hz.out, rfl⟩
  · by_cases c2 : 1023 < p + -(N : Int) + ((E : Int) - 1023)
    · obtain ⟨k, hk⟩ : ∃ k : Nat, p + -(N : Int) + ((E : Int) - 1023) + 1023 = (k : Int) := ⟨_, (Int.toNat_of_nonneg (by omega)).symm⟩
      have Hz : Hid (IsNear (V b * 2 ^ a) (2 ^ c) (k * 4503599627370496 + F)) := Lib.hid (near_exact (Nat.two_pow_pos _) (by
        have h := ldexp_scale (a := a) (c := c) (k := k - 1) (d := 0) HV.out (by have := Hp.out; omega)
        rw [show k * 4503599627370496 + F = (k - 1) * 4503599627370496 + (4503599627370496 + F) by omega, V_at (by omega) (Or.inr (by omega)), h]
        simp))
      have Hm : Hid (min (k * 4503599627370496 + F) 9218868437227405312 = 9218868437227405312) := Lib.hid (by omega)
      clear hk
      go_enter Tryd.func82, Tryd.ntmps82
      go_wp2_with (first | (go_at_call 72; (with_reducible refine (Ki.out _).mono ?_); rintro e w' ⟨rfl, rfl⟩) | (go_at_call 73; (with_reducible refine (Ka.out _).mono ?_); rintro e w' ⟨rfl, rfl⟩) | (go_at_call 98; (with_reducible refine (Kn.out _).mono ?_); rintro e w' ⟨rfl, rfl⟩) | (go_at_call 21; (with_reducible refine (Kc.out _).mono ?_); rintro e w' ⟨rfl, rfl⟩) | (go_at_call 99; (with_reducible refine (inf1_any _).mono ?_); rintro e w' ⟨rfl, rfl⟩))
      go_ret
      exact ⟨k * 4503599627370496 + F, by rw [Hm.out]; rfl, Hz.out, rfl⟩
    · by_cases c3 : p + -(N : Int) + ((E : Int) - 1023) < -1022
      · obtain ⟨k, hk⟩ : ∃ k : Nat, p + -(N : Int) + ((E : Int) - 1023) + 53 + 1023 = (k : Int) := ⟨_, (Int.toNat_of_nonneg (by omega)).symm⟩
        have hk1 : 0 < k := by omega
        have hk2 : k ≤ 2046 := by omega
        obtain ⟨r, hr1, hr2⟩ := ldexp_low hk1 hk2 hFl
        have Hz : Hid (IsNear (V b * 2 ^ a) (2 ^ c) r) := Lib.hid (near_ratio (Nat.two_pow_pos _) (Nat.two_pow_pos _) hr2 (ldexp_scale (a := a) (c := c) (k := k - 1) (d := 53) HV.out (by have := Hp.out; omega)))
        have hj := put_exp hFl (show k < 4096 by omega)
        have hfr := ext_from_eq ((k : Int) * 4503599627370496 + (F : Int)) (k * 4503599627370496 + F) (by omega) w
        have hm := run_float_arith (P := Tryd.prog) w .mul 23 .f64 4368491638549381120 (k * 4503599627370496 + F) _ hr1
        have hj2 : bits .or .u64 (F : Int) ((k : Int) * 4503599627370496) = (k : Int) * 4503599627370496 + (F : Int) := by
          rw [show (k : Int) * 4503599627370496 + (F : Int) = ((k * 4503599627370496 + F : Nat) : Int) by omega, ← hj]; rfl
        clear hj hr1 hr2 HV
        go_enter Tryd.func82, Tryd.ntmps82
        go_wp2_with (first | (go_at_call 72; (with_reducible refine (Ki.out _).mono ?_); rintro e w' ⟨rfl, rfl⟩) | (go_at_call 73; (with_reducible refine (Ka.out _).mono ?_); rintro e w' ⟨rfl, rfl⟩) | (go_at_call 98; (with_reducible refine (Kn.out _).mono ?_); rintro e w' ⟨rfl, rfl⟩) | (go_at_call 21; (with_reducible refine (Kc.out _).mono ?_); rintro e w' ⟨rfl, rfl⟩) | (go_at_call 99; (with_reducible refine (inf1_any _).mono ?_); rintro e w' ⟨rfl, rfl⟩))
        go_ret
        exact ⟨r, rfl, Hz.out, rfl⟩
      · obtain ⟨k, hk⟩ : ∃ k : Nat, p + -(N : Int) + ((E : Int) - 1023) + 1023 = (k : Int) := ⟨_, (Int.toNat_of_nonneg (by omega)).symm⟩
        have hk1 : 0 < k := by omega
        have hk2 : k ≤ 2046 := by omega
        have Hz : Hid (IsNear (V b * 2 ^ a) (2 ^ c) (k * 4503599627370496 + F)) := Lib.hid (near_exact (Nat.two_pow_pos _) (by
          have h := ldexp_scale (a := a) (c := c) (k := k - 1) (d := 0) HV.out (by have := Hp.out; omega)
          rw [show k * 4503599627370496 + F = (k - 1) * 4503599627370496 + (4503599627370496 + F) by omega, V_at (by omega) (Or.inr (by omega)), h]
          simp))
        have Hmin : Hid (min (k * 4503599627370496 + F) 9218868437227405312 = k * 4503599627370496 + F) := Lib.hid (by omega)
        have hj := put_exp hFl (show k < 4096 by omega)
        have hfr := ext_from_eq ((k : Int) * 4503599627370496 + (F : Int)) (k * 4503599627370496 + F) (by omega) w
        have hm := run_float_arith (P := Tryd.prog) w .mul 23 .f64 4607182418800017408 (k * 4503599627370496 + F) _ (ldexp_one hk1 hk2 hFl)
        have hj2 : bits .or .u64 (F : Int) ((k : Int) * 4503599627370496) = (k : Int) * 4503599627370496 + (F : Int) := by
          rw [show (k : Int) * 4503599627370496 + (F : Int) = ((k * 4503599627370496 + F : Nat) : Int) by omega, ← hj]; rfl
        clear hj HV
        go_enter Tryd.func82, Tryd.ntmps82
        go_wp2_with (first | (go_at_call 72; (with_reducible refine (Ki.out _).mono ?_); rintro e w' ⟨rfl, rfl⟩) | (go_at_call 73; (with_reducible refine (Ka.out _).mono ?_); rintro e w' ⟨rfl, rfl⟩) | (go_at_call 98; (with_reducible refine (Kn.out _).mono ?_); rintro e w' ⟨rfl, rfl⟩) | (go_at_call 21; (with_reducible refine (Kc.out _).mono ?_); rintro e w' ⟨rfl, rfl⟩) | (go_at_call 99; (with_reducible refine (inf1_any _).mono ?_); rintro e w' ⟨rfl, rfl⟩))
        go_ret
        exact ⟨k * 4503599627370496 + F, by rw [Hmin.out]; rfl, Hz.out, rfl⟩

theorem ldexp_any (b a c : Nat) (p : Int) (w : World) (h0 : 0 < b) (h1 : b < 9218868437227405312) (hp : p = (a : Int) - (c : Int)) (hp1 : -1000000 ≤ p) (hp2 : p ≤ 1000000) :
    Calls Tryd.prog 43 #[.float .f64 b, .int .i64 p] w (LdexpRes b a c w) := by
  have K := Lib.hid (fun v => ldexp_in b a c p v h0 h1 hp hp1 hp2)
  clear h0 h1 hp
  go_enter Tryd.func43, Tryd.ntmps43
  go_wp2_with (go_at_call 82; (with_reducible refine (K.out _).mono ?_))
  rintro e w' ⟨r, rfl, hr, rfl⟩
  have Hr := Lib.hid hr
  clear hr
  go_wp2
  go_ret
  exact ⟨r, rfl, Hr.out, rfl⟩
end Go.Proofs.YtbpldplbkmabmaaDoor
