/- Floats: sign and rung of a word; what a word stands for; the order by rungs; products. No program's run in this text. -/
import Derived.Test.YtecbbdbeihiioaaFlA
import Derived.Laws.FloatArith
namespace Go.Proofs.Ytecbbdbeihiioaa

/-- The sign bit. -/
def sgn (b : Nat) : Bool := decide (9223372036854775808 ≤ b)
/-- The rung: the bits without the sign. -/
def rg (b : Nat) : Nat := b % 9223372036854775808
/-- The word of a sign and a rung. -/
def mkW (s : Bool) (r : Nat) : Nat := if s then 9223372036854775808 + r else r
/-- The rung with its sign. -/
def keyW (b : Nat) : Int := if sgn b then -(rg b : Int) else (rg b : Int)
/-- The value with its sign. -/
def valW (b : Nat) : Int := if sgn b then -(V (rg b) : Int) else (V (rg b) : Int)

theorem word_mkW (s : Bool) (r : Nat) : Ieee.double.word s r = mkW s r := by
  have h : Ieee.double.signWeight = 9223372036854775808 := by decide
  unfold Ieee.Format.word mkW
  rw [h]

theorem rg_lt (b : Nat) : rg b < 9223372036854775808 := Nat.mod_lt _ (by decide)
theorem sgn_mkW {s : Bool} {r : Nat} (h : r < 9223372036854775808) : sgn (mkW s r) = s := by
  cases s
  · simp [sgn, mkW]; omega
  · simp [sgn, mkW]
theorem rg_mkW {s : Bool} {r : Nat} (h : r < 9223372036854775808) : rg (mkW s r) = r := by
  cases s
  · simp [rg, mkW]; omega
  · simp [rg, mkW]; omega
theorem mkW_lt {s : Bool} {r : Nat} (h : r < 9223372036854775808) : mkW s r < 18446744073709551616 := by
  cases s
  · simp [mkW]; omega
  · simp [mkW]; omega
theorem mkW_self {b : Nat} (h : b < 18446744073709551616) : mkW (sgn b) (rg b) = b := by
  unfold mkW sgn rg
  by_cases h1 : 9223372036854775808 ≤ b
  · simp [h1]; omega
  · simp [h1]; omega
theorem rg_pos {b : Nat} (h : b < 9223372036854775808) : rg b = b := Nat.mod_eq_of_lt h
theorem sgn_pos {b : Nat} (h : b < 9223372036854775808) : sgn b = false := by simp [sgn]; omega

theorem read_word (b : Nat) (hb : b < 18446744073709551616) : Ieee.double.read b =
    if rg b < 4503599627370496 then .number (sgn b) (rg b) (-1074)
    else if rg b < 9218868437227405312 then .number (sgn b) (4503599627370496 + rg b % 4503599627370496) (-1074 + (rg b / 4503599627370496 - 1 : Nat))
    else if rg b = 9218868437227405312 then .infinity (sgn b)
    else .nan (sgn b) (rg b - 9218868437227405312) := by
  have h1 : Ieee.double.signWeight = 9223372036854775808 := by decide
  have h2 : Ieee.double.binade = 4503599627370496 := by decide
  have h3 : Ieee.double.infRung = 9218868437227405312 := by decide
  have h4 : Ieee.double.leastPlace = -1074 := by decide
  have hs : (b / 9223372036854775808 % 2 == 1) = sgn b := by
    unfold sgn
    by_cases h : 9223372036854775808 ≤ b
    · rw [show b / 9223372036854775808 % 2 = 1 by omega]; simp [h]
    · rw [show b / 9223372036854775808 % 2 = 0 by omega]; simp [h]
  unfold Ieee.Format.read
  simp only [h1, h2, h3, h4, hs]
  rfl

theorem read_fin {b : Nat} (hb : b < 18446744073709551616) (h : rg b < 9218868437227405312) :
    ∃ m e : Nat, Ieee.double.read b = .number (sgn b) m ((e : Int) - 1074) ∧ m * 2 ^ e = V (rg b) := by
  rw [read_word b hb]
  unfold V
  by_cases h1 : rg b < 4503599627370496
  · rw [if_pos h1, if_pos h1]
    exact ⟨rg b, 0, rfl, by simp⟩
  · rw [if_neg h1, if_pos h, if_neg h1]
    exact ⟨_, rg b / 4503599627370496 - 1, by rw [Int.add_comm]; rfl, rfl⟩

theorem read_norm {b : Nat} (hb : b < 18446744073709551616) (h : rg b < 9218868437227405312) (h1 : 4503599627370496 ≤ rg b) :
    Ieee.double.read b = .number (sgn b) (4503599627370496 + rg b % 4503599627370496) ((rg b / 4503599627370496 - 1 : Nat) - 1074) := by
  rw [read_word b hb, if_neg (by omega), if_pos h, Int.add_comm]; rfl

theorem read_inf {b : Nat} (hb : b < 18446744073709551616) (h : rg b = 9218868437227405312) : Ieee.double.read b = .infinity (sgn b) := by
  rw [read_word b hb, if_neg (by omega), if_neg (by omega), if_pos h]

theorem read_nan {b : Nat} (hb : b < 18446744073709551616) (h : 9218868437227405312 < rg b) : Ieee.double.read b = .nan (sgn b) (rg b - 9218868437227405312) := by
  rw [read_word b hb, if_neg (by omega), if_neg (by omega), if_neg (by omega)]

theorem signed_val (s : Bool) (m k : Nat) : Ieee.signed s m k = if s then -((m * 2 ^ k : Nat) : Int) else ((m * 2 ^ k : Nat) : Int) := by
  unfold Ieee.signed
  rw [Nat.shiftLeft_eq]

theorem compare_scale {x y c : Int} (hc : 0 < c) : compare (x * c) (y * c) = compare x y := by
  rcases Int.lt_trichotomy x y with h | h | h
  · rw [Int.compare_eq_lt.2 h, Int.compare_eq_lt.2 (Int.mul_lt_mul_of_pos_right h hc)]
  · subst h; simp
  · rw [Int.compare_eq_gt.2 h, Int.compare_eq_gt.2 (Int.mul_lt_mul_of_pos_right h hc)]

theorem signed_scale (s : Bool) (m k j e : Nat) (h : k + j = e) : Ieee.signed s m k * ((2 ^ j : Nat) : Int) = if s then -((m * 2 ^ e : Nat) : Int) else ((m * 2 ^ e : Nat) : Int) := by
  rw [signed_val, ← h, Nat.pow_add, ← Nat.mul_assoc]
  cases s
  · exact (Int.natCast_mul _ _).symm
  · show -((m * 2 ^ k : Nat) : Int) * _ = -_
    rw [Int.neg_mul, ← Int.natCast_mul]

theorem order_val {a b : Nat} (ha : a < 18446744073709551616) (hb : b < 18446744073709551616) (h1 : rg a < 9218868437227405312) (h2 : rg b < 9218868437227405312) :
    Ieee.double.order a b = some (compare (valW a) (valW b)) := by
  obtain ⟨m, e, r1, v1⟩ := read_fin ha h1
  obtain ⟨n, f, r2, v2⟩ := read_fin hb h2
  unfold Ieee.Format.order
  rw [r1, r2]
  simp only [Ieee.Datum.order]
  congr 1
  obtain ⟨g, hg⟩ : ∃ g : Nat, g = min e f := ⟨_, rfl⟩
  rw [show min ((e : Int) - 1074) ((f : Int) - 1074) = (g : Int) - 1074 by omega, show ((e : Int) - 1074 - ((g : Int) - 1074)).toNat = e - g by omega, show ((f : Int) - 1074 - ((g : Int) - 1074)).toNat = f - g by omega]
  rw [← compare_scale (c := ((2 ^ g : Nat) : Int)) (by have := Nat.two_pow_pos g; omega), signed_scale _ _ _ _ e (by omega), signed_scale _ _ _ _ f (by omega), v1, v2]
  rfl

theorem V_facts (r s : Nat) : (r < s ∧ V r < V s) ∨ (r = s ∧ V r = V s) ∨ (s < r ∧ V s < V r) := by
  rcases Nat.lt_trichotomy r s with h | h | h
  · exact Or.inl ⟨h, V_lt h⟩
  · exact Or.inr (Or.inl ⟨h, by rw [h]⟩)
  · exact Or.inr (Or.inr ⟨h, V_lt h⟩)

theorem key_val {a b : Nat} : compare (valW a) (valW b) = compare (keyW a) (keyW b) := by
  have hab := V_facts (rg a) (rg b)
  have h0a : (rg a = 0 ∧ V (rg a) = 0) ∨ (0 < rg a ∧ 0 < V (rg a)) := by
    have := V_facts 0 (rg a); rw [V_zero] at this; omega
  have h0b : (rg b = 0 ∧ V (rg b) = 0) ∨ (0 < rg b ∧ 0 < V (rg b)) := by
    have := V_facts 0 (rg b); rw [V_zero] at this; omega
  unfold valW keyW
  generalize V (rg a) = va at *
  generalize V (rg b) = vb at *
  generalize rg a = ra at *
  generalize rg b = rb at *
  generalize sgn a = sa at *
  generalize sgn b = sb at *
  rcases Int.lt_trichotomy (if sa then -(ra : Int) else (ra : Int)) (if sb then -(rb : Int) else (rb : Int)) with h | h | h
  · rw [Int.compare_eq_lt.2 h]
    apply Int.compare_eq_lt.2
    cases sa <;> cases sb <;> simp only [Bool.false_eq_true, ↓reduceIte] at h ⊢ <;> omega
  · rw [Int.compare_eq_eq.2 h]
    apply Int.compare_eq_eq.2
    cases sa <;> cases sb <;> simp only [Bool.false_eq_true, ↓reduceIte] at h ⊢ <;> omega
  · rw [Int.compare_eq_gt.2 h]
    apply Int.compare_eq_gt.2
    cases sa <;> cases sb <;> simp only [Bool.false_eq_true, ↓reduceIte] at h ⊢ <;> omega

/-- The order of floats that aren't NaNs is that of the rungs with their signs. -/
theorem order_key {a b : Nat} (ha : a < 18446744073709551616) (hb : b < 18446744073709551616) (h1 : rg a ≤ 9218868437227405312) (h2 : rg b ≤ 9218868437227405312) :
    Ieee.double.order a b = some (compare (keyW a) (keyW b)) := by
  by_cases g1 : rg a = 9218868437227405312
  · by_cases g2 : rg b = 9218868437227405312
    · unfold Ieee.Format.order
      rw [read_inf ha g1, read_inf hb g2]
      simp only [Ieee.Datum.order]
      unfold keyW
      rw [g1, g2]
      cases sgn a <;> cases sgn b <;> decide
    · obtain ⟨n, f, r2, -⟩ := read_fin hb (by omega)
      unfold Ieee.Format.order
      rw [read_inf ha g1, r2]
      simp only [Ieee.Datum.order]
      congr 1
      unfold keyW
      rw [g1]
      cases sgn a
      · symm; apply Int.compare_eq_gt.2
        cases sgn b <;> simp only [Bool.false_eq_true, ↓reduceIte] <;> omega
      · symm; apply Int.compare_eq_lt.2
        cases sgn b <;> simp only [Bool.false_eq_true, ↓reduceIte] <;> omega
  · by_cases g2 : rg b = 9218868437227405312
    · obtain ⟨n, f, r2, -⟩ := read_fin ha (by omega)
      unfold Ieee.Format.order
      rw [read_inf hb g2, r2]
      simp only [Ieee.Datum.order]
      congr 1
      unfold keyW
      rw [g2]
      cases sgn b
      · symm; apply Int.compare_eq_lt.2
        cases sgn a <;> simp only [Bool.false_eq_true, ↓reduceIte] <;> omega
      · symm; apply Int.compare_eq_gt.2
        cases sgn a <;> simp only [Bool.false_eq_true, ↓reduceIte] <;> omega
    · rw [order_val ha hb (by omega) (by omega), key_val]

theorem order_nan {a b : Nat} (ha : a < 18446744073709551616) (hb : b < 18446744073709551616) (h : 9218868437227405312 < rg a ∨ 9218868437227405312 < rg b) : Ieee.double.order a b = none := by
  unfold Ieee.Format.order
  rcases h with h | h
  · rw [read_nan ha h]; rfl
  · rw [read_nan hb h]
    cases Ieee.double.read a <;> rfl

/-- Is it no NaN? -/
def okW (b : Nat) : Bool := decide (rg b ≤ 9218868437227405312)

theorem ord_eq {a b : Nat} (ha : a < 18446744073709551616) (hb : b < 18446744073709551616) : (FloatKind.f64.format.order a b == some .eq) = (okW a && okW b && decide (keyW a = keyW b)) := by
  show (Ieee.double.order a b == some .eq) = _
  unfold okW
  by_cases h1 : rg a ≤ 9218868437227405312
  · by_cases h2 : rg b ≤ 9218868437227405312
    · rw [order_key ha hb h1 h2]
      by_cases h : keyW a = keyW b
      · rw [Int.compare_eq_eq.2 h]; simp [h1, h2, h]
      · have : compare (keyW a) (keyW b) ≠ .eq := fun h' => h (Int.compare_eq_eq.1 h')
        simp [h, this]
    · rw [order_nan ha hb (by omega)]; simp [h2]
  · rw [order_nan ha hb (by omega)]; simp [h1]

theorem ord_lt {a b : Nat} (ha : a < 18446744073709551616) (hb : b < 18446744073709551616) : (FloatKind.f64.format.order a b == some .lt) = (okW a && okW b && decide (keyW a < keyW b)) := by
  show (Ieee.double.order a b == some .lt) = _
  unfold okW
  by_cases h1 : rg a ≤ 9218868437227405312
  · by_cases h2 : rg b ≤ 9218868437227405312
    · rw [order_key ha hb h1 h2]
      by_cases h : keyW a < keyW b
      · rw [Int.compare_eq_lt.2 h]; simp [h1, h2, h]
      · have : compare (keyW a) (keyW b) ≠ .lt := fun h' => h (Int.compare_eq_lt.1 h')
        simp [h, this]
    · rw [order_nan ha hb (by omega)]; simp [h2]
  · rw [order_nan ha hb (by omega)]; simp [h1]

theorem ord_gt {a b : Nat} (ha : a < 18446744073709551616) (hb : b < 18446744073709551616) : (FloatKind.f64.format.order a b == some .gt) = (okW a && okW b && decide (keyW b < keyW a)) := by
  show (Ieee.double.order a b == some .gt) = _
  unfold okW
  by_cases h1 : rg a ≤ 9218868437227405312
  · by_cases h2 : rg b ≤ 9218868437227405312
    · rw [order_key ha hb h1 h2]
      by_cases h : keyW b < keyW a
      · rw [Int.compare_eq_gt.2 h]; simp [h1, h2, h]
      · have : compare (keyW a) (keyW b) ≠ .gt := fun h' => h (Int.compare_eq_gt.1 h')
        simp [h, this]
    · rw [order_nan ha hb (by omega)]; simp [h2]
  · rw [order_nan ha hb (by omega)]; simp [h1]
end Go.Proofs.Ytecbbdbeihiioaa
