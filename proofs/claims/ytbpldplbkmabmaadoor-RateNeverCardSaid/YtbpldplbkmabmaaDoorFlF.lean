/- Floats: a quotient of whole numbers rounded by way of 62 or 63 bits of it and a sticky bit; turned signs. No program's run in this text. -/
import Derived.Test.YtbpldplbkmabmaaDoorFlB
import Derived.Laws.BitsAllLaws
namespace Go.Proofs.YtbpldplbkmabmaaDoor

theorem V_dvd {s j : Nat} (h : (j + 1) * 4503599627370496 ≤ s) : ∃ x, V s = x * 2 ^ j := by
  obtain ⟨E, k, rfl, hk, h'⟩ := rung_form s
  have hE : j ≤ E := by omega
  refine ⟨k * 2 ^ (E - j), ?_⟩
  rw [V_at (by omega) h', Nat.mul_assoc, ← Nat.pow_add, Nat.sub_add_cancel hE]

/-- The sticky bit. -/
def stick (n d : Nat) : Nat := if 0 < n % d ∧ n / d % 2 = 0 then n / d + 1 else n / d

theorem stick_le {n d m : Nat} (hd : 0 < d) : 2 * m ≤ stick n d ↔ 2 * m * d ≤ n := by
  rw [← Nat.le_div_iff_mul_le hd]
  unfold stick
  split <;> omega

theorem stick_eq {n d m : Nat} (hd : 0 < d) : 2 * m = stick n d ↔ 2 * m * d = n := by
  have h1 := Nat.div_add_mod n d
  have h2 := Nat.mod_lt n hd
  unfold stick
  split
  · rename_i h
    constructor
    · intro he; omega
    · intro he
      have : n % d = 0 := by rw [← he]; exact Nat.mul_mod_left _ _
      omega
  · rename_i h
    constructor
    · intro he
      have : n % d = 0 := by omega
      rw [he, Nat.mul_comm]; omega
    · intro he
      rw [← he, Nat.mul_div_cancel _ hd]

theorem stick_ge {n d m : Nat} (hd : 0 < d) : stick n d ≤ 2 * m ↔ n ≤ 2 * m * d := by
  have h1 := @stick_le n d m hd
  have h2 := @stick_eq n d m hd
  have h3 : stick n d ≤ 2 * m ↔ 2 * m = stick n d ∨ ¬ 2 * m ≤ stick n d := by omega
  have h4 : n ≤ 2 * m * d ↔ 2 * m * d = n ∨ ¬ 2 * m * d ≤ n := by omega
  rw [h3, h4, h1, h2]

/-- Rounding by way of the sticky bit. -/
theorem near_stick {n d R k : Nat} (hd : 0 < d) (hR : (k + 2 + 1) * 4503599627370496 < R) (h : IsNear (stick n d * 2 ^ k) 1 R) : IsNear (n * 2 ^ k) d R := by
  obtain ⟨x, hx⟩ := V_dvd (s := R - 1) (j := k + 2) (by omega)
  obtain ⟨y, hy⟩ := V_dvd (s := R) (j := k + 2) (by omega)
  obtain ⟨z, hz⟩ := V_dvd (s := R + 1) (j := k + 2) (by omega)
  have hU : 0 < 2 ^ k := Nat.two_pow_pos k
  have e4 (a b : Nat) : a * 2 ^ (k + 2) + b * 2 ^ (k + 2) = 2 * (2 * (a + b)) * 2 ^ k := by
    rw [← Nat.add_mul, Nat.pow_add, Nat.mul_comm (2 ^ k), ← Nat.mul_assoc]
    congr 1
    omega
  obtain ⟨h1, h2, h3⟩ := h
  have c1 (m t : Nat) : 2 * (2 * m) * 2 ^ k ≤ 2 * (t * 2 ^ k) ↔ 2 * m ≤ t := by
    rw [← Nat.mul_assoc 2 t, Nat.mul_le_mul_right_iff hU]; omega
  have c2 (m t : Nat) : 2 * (2 * m) * 2 ^ k = 2 * (t * 2 ^ k) ↔ 2 * m = t := by
    rw [← Nat.mul_assoc 2 t]
    exact ⟨fun h => by have := Nat.mul_right_cancel hU h; omega, fun h => by rw [show 2 * (2 * m) = 2 * t by omega]⟩
  have c3 (m t : Nat) : 2 * (t * 2 ^ k) ≤ 2 * (2 * m) * 2 ^ k ↔ t ≤ 2 * m := by
    rw [← Nat.mul_assoc 2 t, Nat.mul_le_mul_right_iff hU]; omega
  have d1 (m : Nat) : 2 * (2 * m) * 2 ^ k * d = 2 * (2 * m * d) * 2 ^ k := by
    rw [Nat.mul_assoc, Nat.mul_comm (2 ^ k), ← Nat.mul_assoc, Nat.mul_assoc 2 (2 * m) d]
  have c4 (m t : Nat) : 2 * t * 2 ^ k ≤ 2 * (m * 2 ^ k) ↔ t ≤ m := by
    rw [← Nat.mul_assoc 2 m, Nat.mul_le_mul_right_iff hU]; omega
  have c5 (m t : Nat) : 2 * t * 2 ^ k = 2 * (m * 2 ^ k) ↔ t = m := by
    rw [← Nat.mul_assoc 2 m]
    exact ⟨fun h => by have := Nat.mul_right_cancel hU h; omega, fun h => by rw [h]⟩
  have c6 (m t : Nat) : 2 * (m * 2 ^ k) ≤ 2 * t * 2 ^ k ↔ m ≤ t := by
    rw [← Nat.mul_assoc 2 m, Nat.mul_le_mul_right_iff hU]; omega
  refine ⟨fun s hs => ?_, ?_, ?_⟩
  · obtain ⟨g1, g2⟩ := h1 s hs
    obtain rfl : s = R - 1 := by omega
    rw [hx, hy, e4, Nat.mul_one] at g1 g2
    rw [hx, hy, e4, d1]
    rw [c1] at g1
    rw [c2] at g2
    rw [c4, c5]
    exact ⟨(stick_le hd).1 g1, fun he => g2 ((stick_eq hd).2 he)⟩
  · rw [hy, hz, e4, Nat.mul_one, c3] at h2
    rw [hy, hz, e4, d1, c6]
    exact (stick_ge hd).1 h2
  · rw [hy, hz, e4, Nat.mul_one, eq_comm, c2] at h3
    rw [hy, hz, e4, d1, eq_comm, c5]
    exact fun he => h3 ((stick_eq hd).2 he)

/-- The opposite sign. -/
theorem xor_top {r : Nat} (h : r < 9223372036854775808) : r ^^^ 9223372036854775808 = 9223372036854775808 + r := by
  have h1 : 9223372036854775808 ||| r = 9223372036854775808 + r := nat_join 63 9223372036854775808 r (by decide) (by rw [show (2 : Nat) ^ 63 = 9223372036854775808 from by decide]; exact h)
  rw [← h1, Nat.or_comm, show (9223372036854775808 : Nat) = 2 ^ 63 from by decide]
  have h2 : r < 2 ^ 63 := by rw [show (2 : Nat) ^ 63 = 9223372036854775808 from by decide]; exact h
  apply Nat.eq_of_testBit_eq
  intro i
  rw [Nat.testBit_xor, Nat.testBit_or, Nat.testBit_two_pow]
  by_cases hi : 63 = i
  · subst hi
    rw [Nat.testBit_lt_two_pow h2]; rfl
  · simp [hi]

theorem neg_word (s : Bool) {r : Nat} (h : r < 9223372036854775808) : Op.negFloat .f64 (mkW s r) = mkW (!s) r := by
  have e : Op.negFloat .f64 (mkW s r) = mkW s r ^^^ 9223372036854775808 := rfl
  rw [e]
  cases s
  · show r ^^^ 9223372036854775808 = _
    rw [xor_top h]; rfl
  · show (9223372036854775808 + r) ^^^ 9223372036854775808 = r
    rw [← xor_top h, Nat.xor_assoc, Nat.xor_self, Nat.xor_zero]

theorem neg_unary {r : Nat} (h : r < 9223372036854775808) : Op.unary .neg (.float .f64 r) = pure (.float .f64 (mkW true r)) := by
  have h1 := neg_word false h
  have e : Op.unary .neg (.float .f64 r) = pure (.float .f64 (Op.negFloat .f64 (mkW false r))) := rfl
  rw [e, h1]
  rfl

theorem neg_unary_any {b : Nat} (h : b < 18446744073709551616) : Op.unary .neg (.float .f64 b) = pure (.float .f64 (mkW (!sgn b) (rg b))) := by
  have h1 := neg_word (sgn b) (rg_lt b)
  rw [mkW_self h] at h1
  have e : Op.unary .neg (.float .f64 b) = pure (.float .f64 (Op.negFloat .f64 b)) := rfl
  rw [e, h1]
end Go.Proofs.YtbpldplbkmabmaaDoor
