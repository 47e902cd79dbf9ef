/- Floats: a rung's value in units of 2^-1074, what is nearest, and that the format's own rounding is it. No program's run in this text. -/
import Ieee.Arith
namespace Go.Proofs.Ytecbbdbeihiioaa

/-- The value of a rung, in units of 2^-1074 (beyond the last finite one as if the exponents went on). -/
def V (r : Nat) : Nat := if r < 4503599627370496 then r else (4503599627370496 + r % 4503599627370496) * 2 ^ (r / 4503599627370496 - 1)

theorem V_at {E k : Nat} (hk : k ≤ 9007199254740992) (h : E = 0 ∨ 4503599627370496 ≤ k) : V (E * 4503599627370496 + k) = k * 2 ^ E := by
  unfold V
  by_cases h0 : k < 4503599627370496
  · obtain rfl : E = 0 := by omega
    rw [if_pos (by omega)]; simp
  · rw [if_neg (by omega)]
    by_cases h1 : k = 9007199254740992
    · subst h1
      rw [show (E * 4503599627370496 + 9007199254740992) % 4503599627370496 = 0 by omega, show (E * 4503599627370496 + 9007199254740992) / 4503599627370496 - 1 = E + 1 by omega, Nat.pow_succ]
      omega
    · rw [show (E * 4503599627370496 + k) % 4503599627370496 = k - 4503599627370496 by omega, show (E * 4503599627370496 + k) / 4503599627370496 - 1 = E by omega, show 4503599627370496 + (k - 4503599627370496) = k by omega]

/-- Each rung is of this form. -/
theorem rung_form (r : Nat) : ∃ E k, r = E * 4503599627370496 + k ∧ k < 9007199254740992 ∧ (E = 0 ∨ 4503599627370496 ≤ k) := by
  by_cases h : r < 4503599627370496
  · exact ⟨0, r, by omega, by omega, Or.inl rfl⟩
  · exact ⟨r / 4503599627370496 - 1, r % 4503599627370496 + 4503599627370496, by omega, by omega, Or.inr (by omega)⟩

theorem V_succ (r : Nat) : V r < V (r + 1) := by
  obtain ⟨E, k, rfl, hk, h⟩ := rung_form r
  rw [V_at (by omega) h, Nat.add_assoc, V_at (by omega) (by omega), Nat.succ_mul]
  have : 0 < 2 ^ E := Nat.two_pow_pos E
  omega

theorem V_lt {r s : Nat} (h : r < s) : V r < V s := by
  induction s with
  | zero => omega
  | succ s ih =>
    have := V_succ s
    by_cases hs : r = s
    · subst hs; exact this
    · exact Nat.lt_trans (ih (by omega)) this

theorem V_le {r s : Nat} (h : r ≤ s) : V r ≤ V s := by
  by_cases hs : r = s
  · rw [hs]; exact Nat.le_refl _
  · exact Nat.le_of_lt (V_lt (by omega))

theorem V_lt_iff {r s : Nat} : V r < V s ↔ r < s :=
  ⟨fun h => Nat.lt_of_not_le fun h' => by have := V_le h'; omega, V_lt⟩

theorem V_inj {r s : Nat} (h : V r = V s) : r = s := by
  rcases Nat.lt_trichotomy r s with h1 | h1 | h1
  · have := V_lt h1; omega
  · exact h1
  · have := V_lt h1; omega

theorem V_zero : V 0 = 0 := rfl

theorem V_shift {r : Nat} (h : 4503599627370496 ≤ r) (k : Nat) : V (r + k * 4503599627370496) = V r * 2 ^ k := by
  obtain ⟨E, m, rfl, hk, h'⟩ := rung_form r
  have hm : 4503599627370496 ≤ m := by omega
  rw [show E * 4503599627370496 + m + k * 4503599627370496 = (E + k) * 4503599627370496 + m by omega, V_at (by omega) (Or.inr hm), V_at (by omega) (Or.inr hm), Nat.pow_add, Nat.mul_assoc]

/-- r is the rung nearest to p / q; between two, the even one. -/
def IsNear (p q r : Nat) : Prop :=
  (∀ s, s + 1 = r → (V s + V r) * q ≤ 2 * p ∧ ((V s + V r) * q = 2 * p → r % 2 = 0)) ∧
  2 * p ≤ (V r + V (r + 1)) * q ∧ (2 * p = (V r + V (r + 1)) * q → r % 2 = 0)

theorem squeeze {A B p q p' q' : Nat} (hq : 0 < q) (hq' : 0 < q') (hBA : B ≤ A) (h1 : A * q ≤ 2 * p) (h2 : 2 * p' ≤ B * q') (h : p * q' ≤ p' * q) : A * q = 2 * p ∧ 2 * p' = B * q' ∧ A = B := by
  have e1 := Nat.mul_le_mul_right q' h1
  have e2 := Nat.mul_le_mul_right q h2
  have e3 := Nat.mul_le_mul_right (q * q') hBA
  rw [Nat.mul_assoc, Nat.mul_assoc] at e1 e2
  rw [Nat.mul_comm q' q] at e2
  have e4 : A * (q * q') = 2 * (p * q') := by omega
  have e5 : 2 * (p' * q) = B * (q * q') := by omega
  have e6 : A * (q * q') = B * (q * q') := by omega
  refine ⟨?_, ?_, Nat.mul_right_cancel (Nat.mul_pos hq hq') e6⟩
  · rw [← Nat.mul_assoc, ← Nat.mul_assoc] at e4
    exact Nat.mul_right_cancel hq' e4
  · rw [Nat.mul_comm q q', ← Nat.mul_assoc, ← Nat.mul_assoc] at e5
    exact Nat.mul_right_cancel hq e5

theorem near_mono {p q r p' q' r' : Nat} (hq : 0 < q) (hq' : 0 < q') (h : IsNear p q r) (h' : IsNear p' q' r') (hle : p * q' ≤ p' * q) : r ≤ r' := by
  refine Nat.le_of_not_lt fun hlt => ?_
  obtain ⟨s, rfl⟩ : ∃ s, r = s + 1 := ⟨r - 1, by omega⟩
  obtain ⟨h1, h2⟩ := h.1 s rfl
  obtain ⟨-, h3, h4⟩ := h'
  have hv1 : V r' ≤ V s := V_le (by omega)
  have hv2 : V (r' + 1) ≤ V (s + 1) := V_le (by omega)
  obtain ⟨g1, g2, g3⟩ := squeeze hq hq' (show V r' + V (r' + 1) ≤ V s + V (s + 1) by omega) h1 h3 hle
  have e9 : r' = s := V_inj (by omega)
  have := h2 g1
  have := h4 g2
  omega

theorem near_same {p q r p' q' r' : Nat} (hq : 0 < q) (hq' : 0 < q') (h : IsNear p q r) (h' : IsNear p' q' r') (he : p * q' = p' * q) : r = r' :=
  Nat.le_antisymm (near_mono hq hq' h h' (Nat.le_of_eq he)) (near_mono hq' hq h' h (Nat.le_of_eq he.symm))

theorem near_exact {p q r : Nat} (hq : 0 < q) (h : V r * q = p) : IsNear p q r := by
  subst h
  have h1 : V r * q < V (r + 1) * q := Nat.mul_lt_mul_of_pos_right (V_succ r) hq
  refine ⟨fun s hs => ?_, ?_, fun he => ?_⟩
  · subst hs
    have h2 : V s * q < V (s + 1) * q := Nat.mul_lt_mul_of_pos_right (V_succ s) hq
    rw [Nat.add_mul]
    exact ⟨by omega, fun he => by omega⟩
  · rw [Nat.add_mul]; omega
  · rw [Nat.add_mul] at he; omega

theorem near_of_exact {p q r r' : Nat} (hq : 0 < q) (h : IsNear p q r) (he : V r' * q = p) : r = r' :=
  near_same hq hq h (near_exact hq he) rfl

theorem near_scale {p q r : Nat} (c : Nat) (hc : 0 < c) : IsNear (p * c) (q * c) r ↔ IsNear p q r := by
  have hm (a b : Nat) : a * (q * c) ≤ 2 * (p * c) ↔ a * q ≤ 2 * p := by
    rw [← Nat.mul_assoc, ← Nat.mul_assoc]; exact Nat.mul_le_mul_right_iff hc
  have hm2 (a : Nat) : 2 * (p * c) ≤ a * (q * c) ↔ 2 * p ≤ a * q := by
    rw [← Nat.mul_assoc, ← Nat.mul_assoc]; exact Nat.mul_le_mul_right_iff hc
  have he (a : Nat) : a * (q * c) = 2 * (p * c) ↔ a * q = 2 * p := by
    rw [← Nat.mul_assoc, ← Nat.mul_assoc]; exact ⟨fun h => Nat.mul_right_cancel hc h, fun h => by rw [h]⟩
  have he2 (a : Nat) : 2 * (p * c) = a * (q * c) ↔ 2 * p = a * q := by
    rw [eq_comm, he, eq_comm]
  unfold IsNear
  simp only [hm _ 0, hm2, he, he2]

/-- A power of two above or below moves the rung by whole binades. -/
theorem near_shift {p q r : Nat} (k : Nat) (h : 4503599627370496 < r) : IsNear p (q * 2 ^ k) r ↔ IsNear p q (r + k * 4503599627370496) := by
  obtain ⟨s, rfl⟩ : ∃ s, r = s + 1 := ⟨r - 1, by omega⟩
  have e1 : V (s + 1 + k * 4503599627370496) = V (s + 1) * 2 ^ k := V_shift (by omega) k
  have e2 : V (s + k * 4503599627370496) = V s * 2 ^ k := V_shift (by omega) k
  have e3 : V (s + 1 + k * 4503599627370496 + 1) = V (s + 1 + 1) * 2 ^ k := by
    rw [show s + 1 + k * 4503599627370496 + 1 = s + 1 + 1 + k * 4503599627370496 by omega]; exact V_shift (by omega) k
  have hp : (s + 1 + k * 4503599627370496) % 2 = (s + 1) % 2 := by omega
  have hx (a b : Nat) : (a + b) * (q * 2 ^ k) = (a * 2 ^ k + b * 2 ^ k) * q := by
    rw [← Nat.add_mul, Nat.mul_assoc, Nat.mul_comm q]
  unfold IsNear
  rw [e1, e3, hp, hx]
  constructor
  · rintro ⟨h1, h2⟩
    refine ⟨fun t ht => ?_, h2⟩
    obtain rfl : t = s + k * 4503599627370496 := by omega
    have := h1 s rfl
    rw [hx] at this
    rw [e2]; exact this
  · rintro ⟨h1, h2⟩
    refine ⟨fun t ht => ?_, h2⟩
    obtain rfl : t = s := by omega
    have := h1 (t + k * 4503599627370496) (by omega)
    rw [e2] at this
    rw [hx]; exact this

/-- Cutting off binary digits, to the nearest, ties to even. -/
theorem cut_spec (neg : Bool) (n drop : Nat) :
    let k := Ieee.Toward.even.cut neg n drop
    2 * k * 2 ^ drop ≤ 2 * n + 2 ^ drop ∧ (2 * k * 2 ^ drop = 2 * n + 2 ^ drop → k % 2 = 0) ∧ 2 * n ≤ 2 * k * 2 ^ drop + 2 ^ drop ∧ (2 * n = 2 * k * 2 ^ drop + 2 ^ drop → k % 2 = 0) := by
  intro k
  by_cases hd : drop ≤ n.log2 + 2
  · have hk : k = n / 2 ^ drop + (decide (2 ^ drop < 2 * (n % 2 ^ drop)) || (2 ^ drop == 2 * (n % 2 ^ drop) && n / 2 ^ drop % 2 == 1)).toNat := by
      show Ieee.Toward.even.cut neg n drop = _
      unfold Ieee.Toward.cut
      simp only [Nat.min_eq_left hd, Nat.one_shiftLeft]
    have hg : 0 < 2 ^ drop := Nat.two_pow_pos _
    have hn := Nat.div_add_mod n (2 ^ drop)
    have hm := Nat.mod_lt n hg
    generalize n / 2 ^ drop = low at *
    generalize n % 2 ^ drop = rest at *
    generalize 2 ^ drop = g at *
    rw [hk]
    have e1 : 2 * (low + 1) * g = 2 * (g * low) + 2 * g := by rw [Nat.mul_assoc, Nat.add_mul, Nat.mul_add, Nat.one_mul, Nat.mul_comm low g]
    have e2 : 2 * low * g = 2 * (g * low) := by rw [Nat.mul_assoc, Nat.mul_comm low g]
    by_cases h1 : g < 2 * rest
    · rw [show (decide (g < 2 * rest) || (g == 2 * rest && low % 2 == 1)) = true by simp [h1]]
      show 2 * (low + 1) * g ≤ _ ∧ _ ∧ _ ≤ 2 * (low + 1) * g + g ∧ _
      simp only [Bool.toNat_true]
      rw [e1]
      exact ⟨by omega, fun h => by omega, by omega, fun h => by omega⟩
    · by_cases h2 : g = 2 * rest
      · by_cases h3 : low % 2 = 1
        · rw [show (decide (g < 2 * rest) || (g == 2 * rest && low % 2 == 1)) = true by simp [h2, h3]]
          simp only [Bool.toNat_true]
          rw [e1]
          exact ⟨by omega, fun h => by omega, by omega, fun h => by omega⟩
        · rw [show (decide (g < 2 * rest) || (g == 2 * rest && low % 2 == 1)) = false by simp [h1, h3]]
          simp only [Bool.toNat_false, Nat.add_zero]
          rw [e2]
          exact ⟨by omega, fun h => by omega, by omega, fun h => by omega⟩
      · rw [show (decide (g < 2 * rest) || (g == 2 * rest && low % 2 == 1)) = false by simp [h1, h2]]
        simp only [Bool.toNat_false, Nat.add_zero]
        rw [e2]
        exact ⟨by omega, fun h => by omega, by omega, fun h => by omega⟩
  · have hlt : 2 * n < 2 ^ (n.log2 + 2) := by
      have := @Nat.lt_log2_self n
      rw [Nat.pow_succ]
      omega
    have hg : 2 ^ (n.log2 + 2) ≤ 2 ^ drop := Nat.pow_le_pow_right (by decide) (by omega)
    have hk : k = 0 := by
      show Ieee.Toward.even.cut neg n drop = _
      unfold Ieee.Toward.cut
      simp only [Nat.min_eq_right (show n.log2 + 2 ≤ drop by omega), Nat.one_shiftLeft]
      rw [Nat.div_eq_of_lt (by omega), Nat.mod_eq_of_lt (by omega)]
      generalize 2 ^ (n.log2 + 2) = g at *
      rw [show (decide (g < 2 * n) || (g == 2 * n && (0 : Nat) % 2 == 1)) = false by simp; omega]
      rfl
    rw [hk]
    simp only [Nat.mul_zero, Nat.zero_mul]
    exact ⟨by omega, fun _ => trivial, by omega, fun _ => trivial⟩

theorem scale_up {n k d D M X Y S : Nat} (hX : 0 < X) (hY : 0 < Y) (hD : 0 < D) (hM : M * D = n * (Y * X)) (h1 : 2 * n ≤ 2 * k * D + D) (h2 : 2 * n = 2 * k * D + D → k % 2 = 0) (hS : (2 * k + 1) * X ≤ S) (_ : d = d) :
    2 * M ≤ S * Y ∧ (2 * M = S * Y → k % 2 = 0) := by
  have e1 : 2 * n * (Y * X) ≤ (2 * k * D + D) * (Y * X) := Nat.mul_le_mul_right _ h1
  have e2 : (2 * k + 1) * X * (Y * D) ≤ S * (Y * D) := Nat.mul_le_mul_right _ hS
  have e3 : (2 * k * D + D) * (Y * X) = (2 * k + 1) * X * (Y * D) := by
    rw [show 2 * k * D + D = (2 * k + 1) * D by rw [Nat.add_mul, Nat.one_mul]]
    rw [Nat.mul_assoc, Nat.mul_assoc]
    congr 1
    rw [Nat.mul_comm Y X, ← Nat.mul_assoc, Nat.mul_comm D X, Nat.mul_assoc, Nat.mul_comm D Y]
  have e4 : 2 * n * (Y * X) = 2 * M * D := by rw [Nat.mul_assoc, ← hM, Nat.mul_assoc]
  have e5 : S * (Y * D) = S * Y * D := by rw [Nat.mul_assoc]
  refine ⟨Nat.le_of_mul_le_mul_right (by omega : 2 * M * D ≤ S * Y * D) hD, fun h => h2 ?_⟩
  have e6 : 2 * n * (Y * X) = (2 * k * D + D) * (Y * X) := by
    have : 2 * M * D = S * Y * D := by rw [h]
    omega
  exact Nat.mul_right_cancel (Nat.mul_pos hY hX) e6

theorem scale_down {n k D M X Y : Nat} (hX : 0 < X) (hY : 0 < Y) (hD : 0 < D) (hM : M * D = n * (Y * X)) (h1 : 2 * (k + 1) * D ≤ 2 * n + D) (h2 : 2 * (k + 1) * D = 2 * n + D → (k + 1) % 2 = 0) :
    (k * X + (k + 1) * X) * Y ≤ 2 * M ∧ ((k * X + (k + 1) * X) * Y = 2 * M → (k + 1) % 2 = 0) := by
  have h1' : (2 * k + 1) * D ≤ 2 * n := by
    have : 2 * (k + 1) * D = (2 * k + 1) * D + D := by rw [show 2 * (k + 1) = 2 * k + 1 + 1 by omega, Nat.succ_mul]
    omega
  have e1 : (2 * k + 1) * D * (Y * X) ≤ 2 * n * (Y * X) := Nat.mul_le_mul_right _ h1'
  have e3 : (2 * k + 1) * D * (Y * X) = (k * X + (k + 1) * X) * Y * D := by
    rw [← Nat.add_mul, show k + (k + 1) = 2 * k + 1 by omega, Nat.mul_assoc, Nat.mul_assoc, Nat.mul_assoc]
    congr 1
    rw [Nat.mul_comm Y X, Nat.mul_comm D, Nat.mul_assoc]
  have e4 : 2 * n * (Y * X) = 2 * M * D := by rw [Nat.mul_assoc, ← hM, Nat.mul_assoc]
  refine ⟨Nat.le_of_mul_le_mul_right (by omega : (k * X + (k + 1) * X) * Y * D ≤ 2 * M * D) hD, fun h => h2 ?_⟩
  have e6 : (2 * k + 1) * D * (Y * X) = 2 * n * (Y * X) := by
    have : (k * X + (k + 1) * X) * Y * D = 2 * M * D := by rw [h]
    omega
  have e7 := Nat.mul_right_cancel (Nat.mul_pos hY hX) e6
  rw [show 2 * (k + 1) = 2 * k + 1 + 1 by omega, Nat.succ_mul]
  omega

theorem nearest_is (neg : Bool) (mag a b : Nat) (h : 0 < mag) :
    ∃ r, IsNear (mag * 2 ^ a) (2 ^ b) r ∧ Ieee.double.nearest neg mag ((a : Int) - (b : Int) - 1074) = Ieee.double.word neg (min r 9218868437227405312) := by
  obtain ⟨L, hL⟩ : ∃ L, L = mag.log2 := ⟨_, rfl⟩
  have hL1 : 2 ^ L ≤ mag := by rw [hL]; exact Nat.log2_self_le (by omega)
  have hL2 : mag < 2 ^ (L + 1) := by rw [hL]; exact Nat.lt_log2_self
  obtain ⟨E, hE⟩ : ∃ E : Nat, E = ((a : Int) - b + L - 52).toNat := ⟨_, rfl⟩
  obtain ⟨u, hu⟩ : ∃ u : Nat, u = ((a : Int) - b - E).toNat := ⟨_, rfl⟩
  obtain ⟨d, hd⟩ : ∃ d : Nat, d = ((E : Int) + b - a).toNat := ⟨_, rfl⟩
  obtain ⟨n, hn⟩ : ∃ n : Nat, n = mag * 2 ^ u := ⟨_, rfl⟩
  obtain ⟨k, hk⟩ : ∃ k : Nat, k = Ieee.Toward.even.cut neg n d := ⟨_, rfl⟩
  have hudE : u + (b + E) = a + d := by omega
  have hM : mag * 2 ^ a * 2 ^ d = n * (2 ^ b * 2 ^ E) := by
    rw [hn, Nat.mul_assoc, Nat.mul_assoc, ← Nat.pow_add, ← Nat.pow_add, ← Nat.pow_add, hudE]
  have hn1 : n < 9007199254740992 * 2 ^ d := by
    have h1 : n < 2 ^ (L + 1) * 2 ^ u := by rw [hn]; exact Nat.mul_lt_mul_of_pos_right hL2 (Nat.two_pow_pos _)
    have h2 : 2 ^ (L + 1) * 2 ^ u ≤ 2 ^ 53 * 2 ^ d := by
      rw [← Nat.pow_add, ← Nat.pow_add]; exact Nat.pow_le_pow_right (by decide) (by omega)
    have h3 : (2 : Nat) ^ 53 = 9007199254740992 := by decide
    omega
  have hn2 : 0 < E → 4503599627370496 * 2 ^ d ≤ n := by
    intro h0
    have h1 : 2 ^ L * 2 ^ u ≤ n := by rw [hn]; exact Nat.mul_le_mul_right _ hL1
    have h2 : 2 ^ 52 * 2 ^ d ≤ 2 ^ L * 2 ^ u := by
      rw [← Nat.pow_add, ← Nat.pow_add]; exact Nat.pow_le_pow_right (by decide) (by omega)
    have h3 : (2 : Nat) ^ 52 = 4503599627370496 := by decide
    omega
  have hD := Nat.two_pow_pos d
  have hX := Nat.two_pow_pos E
  have hY := Nat.two_pow_pos b
  obtain ⟨c1, c2, c3, c4⟩ := cut_spec neg n d
  rw [← hk] at c1 c2 c3 c4
  have hk1 : k ≤ 9007199254740992 := by
    refine Nat.le_of_not_lt fun hlt => ?_
    have := Nat.mul_le_mul_right (2 ^ d) (show 2 * 9007199254740992 + 2 ≤ 2 * k by omega)
    rw [Nat.add_mul] at this
    omega
  have hk2 : 0 < E → 4503599627370496 ≤ k := by
    intro h0
    have := hn2 h0
    refine Nat.le_of_not_lt fun hlt => ?_
    have := Nat.mul_le_mul_right (2 ^ d) (show 2 * k + 2 ≤ 2 * 4503599627370496 by omega)
    rw [Nat.add_mul] at this
    omega
  have hk3 : E = 0 ∨ 4503599627370496 ≤ k := by
    rcases Nat.eq_zero_or_pos E with h0 | h0
    · exact Or.inl h0
    · exact Or.inr (hk2 h0)
  have hV : V (E * 4503599627370496 + k) = k * 2 ^ E := V_at hk1 hk3
  refine ⟨E * 4503599627370496 + k, ⟨fun s hs => ?_, ?_⟩, ?_⟩
  · by_cases hs' : E = 0 ∨ 4503599627370496 < k
    · obtain ⟨j, hj⟩ : ∃ j, k = j + 1 := ⟨k - 1, by omega⟩
      have hVs : V s = j * 2 ^ E := by
        rw [show s = E * 4503599627370496 + j by omega]
        exact V_at (by omega) (by omega)
      rw [hVs, hV]
      rw [hj] at c1 c2 ⊢
      obtain ⟨g1, g2⟩ := scale_down hX hY hD hM c1 c2
      exact ⟨g1, fun he => by have := g2 he; omega⟩
    · have hkk : k = 4503599627370496 := by omega
      have h0 : 0 < E := by omega
      have hlt : V s < k * 2 ^ E := by rw [← hV]; exact V_lt (by omega)
      have hkn : k * 2 ^ d ≤ n := by rw [hkk]; exact hn2 h0
      have e1 : k * 2 ^ d * (2 ^ b * 2 ^ E) ≤ n * (2 ^ b * 2 ^ E) := Nat.mul_le_mul_right _ hkn
      have e2 : k * 2 ^ d * (2 ^ b * 2 ^ E) = k * 2 ^ E * 2 ^ b * 2 ^ d := by
        rw [Nat.mul_assoc, Nat.mul_assoc, Nat.mul_assoc]
        congr 1
        rw [Nat.mul_comm (2 ^ d), Nat.mul_comm (2 ^ b) (2 ^ E), Nat.mul_assoc]
      have e3 : k * 2 ^ E * 2 ^ b ≤ mag * 2 ^ a := Nat.le_of_mul_le_mul_right (by omega : k * 2 ^ E * 2 ^ b * 2 ^ d ≤ mag * 2 ^ a * 2 ^ d) hD
      have e4 : (V s + V (E * 4503599627370496 + k)) * 2 ^ b < (k * 2 ^ E + k * 2 ^ E) * 2 ^ b := Nat.mul_lt_mul_of_pos_right (by omega) hY
      rw [Nat.add_mul (k * 2 ^ E)] at e4
      exact ⟨by omega, fun he => by omega⟩
  · have hVn : (k + 1) * 2 ^ E ≤ V (E * 4503599627370496 + k + 1) := by
      by_cases hkm : k = 9007199254740992
      · rw [show E * 4503599627370496 + k + 1 = (E + 1) * 4503599627370496 + 4503599627370497 by omega, V_at (by omega) (Or.inr (by omega)), hkm, Nat.pow_succ]
        omega
      · rw [show E * 4503599627370496 + k + 1 = E * 4503599627370496 + (k + 1) by omega, V_at (by omega) (by omega)]
        exact Nat.le_refl _
    have hS : (2 * k + 1) * 2 ^ E ≤ V (E * 4503599627370496 + k) + V (E * 4503599627370496 + k + 1) := by
      rw [hV, show 2 * k + 1 = k + (k + 1) by omega, Nat.add_mul]
      omega
    obtain ⟨g1, g2⟩ := scale_up hX hY hD hM c3 c4 hS (rfl : d = d)
    exact ⟨g1, fun he => by have := g2 he; omega⟩
  · unfold Ieee.Format.nearest
    rw [if_neg (by omega)]
    have hlp : Ieee.double.leastPlace = -1074 := by decide
    have hfb : (Ieee.double.fractionBits : Int) = 52 := rfl
    have hbi : Ieee.double.binade = 4503599627370496 := by decide
    have hir : Ieee.double.infRung = 9218868437227405312 := by decide
    simp only [hlp, hfb, hbi, hir]
    rw [← hL]
    have hlast : max ((a : Int) - b - 1074 + L - 52) (-1074) = (E : Int) - 1074 := by omega
    rw [hlast]
    rw [show ((a : Int) - b - 1074 - ((E : Int) - 1074)).toNat = u by omega, show ((E : Int) - 1074 - ((a : Int) - b - 1074)).toNat = d by omega, show ((E : Int) - 1074 - -1074).toNat = E by omega]
    rw [Nat.shiftLeft_eq, ← hn, ← hk]
end Go.Proofs.Ytecbbdbeihiioaa
