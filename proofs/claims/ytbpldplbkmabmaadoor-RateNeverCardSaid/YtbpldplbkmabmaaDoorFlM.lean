/- Plain laws: sums, differences and products of finite floats, as words. No program's run in this text. -/
import Derived.Test.YtbpldplbkmabmaaDoorFlL
namespace Go.Proofs.YtbpldplbkmabmaaDoor

/-- c is the word of T / q rounded (in units of 2^-1074); a zero has the sign z. -/
def RoundW (T : Int) (q : Nat) (z : Bool) (c : Nat) : Prop := (T = 0 ∧ c = mkW z 0) ∨ (T ≠ 0 ∧ ∃ r, IsNear T.natAbs q r ∧ c = mkW (decide (T < 0)) (min r 9218868437227405312))

theorem roundW_lt {T : Int} {q : Nat} {z : Bool} {c : Nat} (h : RoundW T q z c) : c < 18446744073709551616 := by
  rcases h with ⟨-, rfl⟩ | ⟨-, r, -, rfl⟩
  · exact mkW_lt (by decide)
  · exact mkW_lt (by omega)
theorem roundW_rg {T : Int} {q : Nat} {z : Bool} {c : Nat} (h : RoundW T q z c) : rg c ≤ 9218868437227405312 := by
  rcases h with ⟨-, rfl⟩ | ⟨-, r, -, rfl⟩
  · rw [rg_mkW (by decide)]; omega
  · rw [rg_mkW (by omega)]; omega

/-- The exact number is a float's: then it is the answer. -/
theorem roundW_exact {T : Int} {z : Bool} {c R : Nat} (h : RoundW T 1 z c) (h0 : T ≠ 0) (hV : V R = T.natAbs) (hR : R < 9218868437227405312) : c = mkW (decide (T < 0)) R := by
  rcases h with ⟨h, -⟩ | ⟨-, r, hr, rfl⟩
  · exact absurd h h0
  · have := near_of_exact (by decide) hr (r' := R) (by omega)
    subst this
    rw [show min r 9218868437227405312 = r by omega]

theorem write_num {X T : Int} {j : Nat} (z : Bool) (h : X * ((2 ^ j : Nat) : Int) = T) :
    RoundW T 1 z (Ieee.double.nearest (if X = 0 then z else decide (X < 0)) X.natAbs ((j : Int) - 1074)) := by
  by_cases h0 : X = 0
  · subst h0
    left
    refine ⟨by omega, ?_⟩
    rw [if_pos rfl]
    unfold Ieee.Format.nearest
    rw [if_pos (show Int.natAbs 0 = 0 from rfl), word_mkW]
  · right
    have hj : (0 : Int) < ((2 ^ j : Nat) : Int) := by have := Nat.two_pow_pos j; omega
    have hT : T.natAbs = X.natAbs * 2 ^ j := by rw [← h, Int.natAbs_mul, Int.natAbs_natCast]
    have hs : decide (T < 0) = decide (X < 0) := by
      rcases Int.lt_or_lt_of_ne h0 with hx | hx
      · have : T < 0 := by rw [← h]; exact Int.mul_neg_of_neg_of_pos hx hj
        rw [decide_eq_true this, decide_eq_true hx]
      · have : 0 < T := by rw [← h]; exact Int.mul_pos hx hj
        rw [decide_eq_false (by omega), decide_eq_false (by omega)]
    obtain ⟨r, hr, he⟩ := nearest_is (decide (X < 0)) X.natAbs j 0 (by omega)
    have hT0 : T ≠ 0 := by
      intro hh
      have : X.natAbs * 2 ^ j = 0 := by rw [← hT, hh]; rfl
      rcases Nat.mul_eq_zero.1 this with h1 | h1
      · omega
      · have := Nat.two_pow_pos j; omega
    refine ⟨hT0, r, ?_, ?_⟩
    · rw [hT]; exact hr
    · rw [if_neg h0, hs, ← word_mkW, ← he]
      rw [show (j : Int) - ((0 : Nat) : Int) - 1074 = (j : Int) - 1074 by omega]

theorem sum_nums (s t : Bool) (m n e f : Nat) :
    ∃ X : Int, ∃ j : Nat, (Ieee.Datum.number s m ((e : Int) - 1074)).sum (.number t n ((f : Int) - 1074)) = some (.number (if X = 0 then s && t else decide (X < 0)) X.natAbs ((j : Int) - 1074)) ∧
      X * ((2 ^ j : Nat) : Int) = (if s then -((m * 2 ^ e : Nat) : Int) else ((m * 2 ^ e : Nat) : Int)) + (if t then -((n * 2 ^ f : Nat) : Int) else ((n * 2 ^ f : Nat) : Int)) := by
  obtain ⟨j, hj⟩ : ∃ j : Nat, j = min e f := ⟨_, rfl⟩
  have hmin : min ((e : Int) - 1074) ((f : Int) - 1074) = (j : Int) - 1074 := by omega
  have h1 : ((e : Int) - 1074 - ((j : Int) - 1074)).toNat = e - j := by omega
  have h2 : ((f : Int) - 1074 - ((j : Int) - 1074)).toNat = f - j := by omega
  refine ⟨Ieee.signed s m (e - j) + Ieee.signed t n (f - j), j, ?_, ?_⟩
  · unfold Ieee.Datum.sum
    simp only [hmin, h1, h2]
  · rw [Int.add_mul, signed_scale s m (e - j) j e (by omega), signed_scale t n (f - j) j f (by omega)]

theorem add_fin {a b : Nat} (ha : a < 18446744073709551616) (hb : b < 18446744073709551616) (h1 : rg a < 9218868437227405312) (h2 : rg b < 9218868437227405312) :
    ∃ c, floatBits .add .f64 a b = some c ∧ RoundW (valW a + valW b) 1 (sgn a && sgn b) c := by
  obtain ⟨m, e, r1, v1⟩ := read_fin ha h1
  obtain ⟨n, f, r2, v2⟩ := read_fin hb h2
  obtain ⟨X, j, hs, hX⟩ := sum_nums (sgn a) (sgn b) m n e f
  rw [v1, v2] at hX
  refine ⟨_, ?_, write_num (sgn a && sgn b) hX⟩
  show ((Ieee.double.read a).sum (Ieee.double.read b)).map Ieee.double.write = _
  rw [r1, r2, hs]
  rfl

theorem valW_not {b : Nat} : (if (!sgn b) then -(V (rg b) : Int) else (V (rg b) : Int)) = -valW b := by
  unfold valW
  cases sgn b
  · rfl
  · simp

theorem sub_fin {a b : Nat} (ha : a < 18446744073709551616) (hb : b < 18446744073709551616) (h1 : rg a < 9218868437227405312) (h2 : rg b < 9218868437227405312) :
    ∃ c, floatBits .sub .f64 a b = some c ∧ RoundW (valW a - valW b) 1 (sgn a && !sgn b) c := by
  obtain ⟨m, e, r1, v1⟩ := read_fin ha h1
  obtain ⟨n, f, r2, v2⟩ := read_fin hb h2
  obtain ⟨X, j, hs, hX⟩ := sum_nums (sgn a) (!sgn b) m n e f
  rw [v1, v2, valW_not] at hX
  refine ⟨_, ?_, write_num (sgn a && !sgn b) (T := valW a - valW b) (by rw [hX]; rfl)⟩
  show ((Ieee.double.read a).sum (Ieee.double.read b).opposite).map Ieee.double.write = _
  rw [r1, r2]
  show ((Ieee.Datum.number (sgn a) m ((e : Int) - 1074)).sum (Ieee.Datum.number (!sgn b) n ((f : Int) - 1074))).map Ieee.double.write = _
  rw [hs]
  rfl

theorem near_zero {q : Nat} (hq : 0 < q) : IsNear 0 q 0 :=
  ⟨fun s hs => by omega, Nat.zero_le _, fun h => by
    have : 0 < V 0 + V (0 + 1) := by have := V_succ 0; omega
    have := Nat.mul_pos this hq
    omega⟩

theorem mul_fin {a b : Nat} (ha : a < 18446744073709551616) (hb : b < 18446744073709551616) (h1 : rg a < 9218868437227405312) (h2 : rg b < 9218868437227405312) :
    ∃ c r, floatBits .mul .f64 a b = some c ∧ IsNear (V (rg a) * V (rg b)) (pw 1074) r ∧ c = mkW (sgn a ^^ sgn b) (min r 9218868437227405312) := by
  obtain ⟨m, e, r1, v1⟩ := read_fin ha h1
  obtain ⟨n, f, r2, v2⟩ := read_fin hb h2
  have hp : ∀ g : Nat, g = e + f → m * n * 2 ^ g = V (rg a) * V (rg b) := by
    intro g hg
    rw [hg, ← v1, ← v2, Nat.pow_add, Nat.mul_mul_mul_comm]
  have hw : floatBits .mul .f64 a b = some (Ieee.double.nearest (sgn a ^^ sgn b) (m * n) ((e : Int) - 1074 + ((f : Int) - 1074))) := by
    show ((Ieee.double.read a).product (Ieee.double.read b)).map Ieee.double.write = _
    rw [r1, r2]
    rfl
  by_cases h0 : m * n = 0
  · refine ⟨_, 0, hw, ?_, ?_⟩
    · rw [← hp _ rfl, h0, Nat.zero_mul]
      exact near_zero (pw_pos _)
    · unfold Ieee.Format.nearest
      rw [if_pos h0, word_mkW]
      rfl
  · obtain ⟨k, hk⟩ : ∃ k : Nat, k = 1074 := ⟨_, rfl⟩
    obtain ⟨r, hr, he⟩ := nearest_is (sgn a ^^ sgn b) (m * n) (e + f) k (Nat.pos_of_ne_zero h0)
    refine ⟨_, r, hw, ?_, ?_⟩
    · rw [← hp _ rfl, ← hk]; exact hr
    · rw [← word_mkW, ← he]
      rw [show ((e + f : Nat) : Int) - (k : Int) - 1074 = (e : Int) - 1074 + ((f : Int) - 1074) by omega]

theorem whole_rung' {o K : Nat} (h0 : 0 < o) (h1 : o < 9007199254740992) (hK : 53 ≤ K) (hK2 : K ≤ 1500) : ∃ R, V R = o * pw K ∧ 4503599627370496 < R ∧ R < 9218868437227405312 := by
  have hl : o.log2 ≤ 52 := by
    refine Nat.le_of_lt_succ ((Nat.log2_lt (by omega)).2 ?_)
    exact h1
  have a1 : 2 ^ o.log2 ≤ o := Nat.log2_self_le (by omega)
  have a2 : o < 2 ^ (o.log2 + 1) := Nat.lt_log2_self
  generalize o.log2 = L at *
  have b1 : 2 ^ L * 2 ^ (52 - L) ≤ o * 2 ^ (52 - L) := Nat.mul_le_mul_right _ a1
  have b2 : o * 2 ^ (52 - L) < 2 ^ (L + 1) * 2 ^ (52 - L) := Nat.mul_lt_mul_of_pos_right a2 (Nat.two_pow_pos _)
  rw [← Nat.pow_add] at b1 b2
  rw [show L + (52 - L) = 52 by omega] at b1
  rw [show L + 1 + (52 - L) = 53 by omega] at b2
  refine ⟨(K - (52 - L)) * 4503599627370496 + o * 2 ^ (52 - L), ?_, by omega, by omega⟩
  rw [V_at (by omega) (Or.inr (by omega)), Nat.mul_assoc, ← Nat.pow_add, show 52 - L + (K - (52 - L)) = K by omega]
  rfl
end Go.Proofs.YtbpldplbkmabmaaDoor
