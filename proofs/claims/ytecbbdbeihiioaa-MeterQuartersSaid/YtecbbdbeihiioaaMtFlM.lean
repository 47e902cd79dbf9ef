/- Plain laws of sums, differences and products of finite floats, and of whole floats. No program's run in this text. -/
import Derived.Test.YtecbbdbeihiioaaMtH
import Derived.Test.YtecbbdbeihiioaaMtY
namespace Go.Proofs.Ytecbbdbeihiioaa
set_option linter.unusedVariables false

def pw (k : Nat) : Nat := 2 ^ k
theorem pw_pos (k : Nat) : 0 < pw k := Nat.two_pow_pos k

theorem whole_rung {o : Nat} (h0 : 0 < o) (h1 : o < 9007199254740992) : ∃ R, V R = o * pw 1074 ∧ 4503599627370496 < R ∧ R < 9218868437227405312 := by
  have hl : o.log2 ≤ 52 := by
    refine Nat.le_of_lt_succ ((Nat.log2_lt (by omega)).2 ?_)
    exact h1
  have a1 : 2 ^ o.log2 ≤ o := Nat.log2_self_le (by omega)
  have a2 : o < 2 ^ (o.log2 + 1) := Nat.lt_log2_self
  generalize o.log2 = L at *
  have b1 : 2 ^ L * 2 ^ (52 - L) ≤ o * 2 ^ (52 - L) := Nat.mul_le_mul_right _ a1
  have b2 : o * 2 ^ (52 - L) < 2 ^ (L + 1) * 2 ^ (52 - L) := Nat.mul_lt_mul_of_pos_right a2 (Nat.two_pow_pos _)
  rw [← Nat.pow_add] at b1 b2
  rw [show L + (52 - L) = 52 by omega] at b1
  rw [show L + 1 + (52 - L) = 53 by omega] at b2
  obtain ⟨K, hK⟩ : ∃ K, K = 1074 := ⟨_, rfl⟩
  rw [← hK]
  refine ⟨(K - (52 - L)) * 4503599627370496 + o * 2 ^ (52 - L), ?_, by omega, by omega⟩
  rw [V_at (by omega) (Or.inr (by omega)), Nat.mul_assoc, ← Nat.pow_add, show 52 - L + (K - (52 - L)) = K by omega]
  rfl

theorem whole_near_is {o R k : Nat} (hk : k = 1074) (h0 : 0 < o) (h : V R = o * pw k) (h1 : R < 9218868437227405312) : floatOfInt .f64 (o : Int) = R := by
  obtain ⟨r, hr, he⟩ := nearest_is false o k 0 (by omega)
  have e1 : floatOfInt .f64 (o : Int) = Ieee.double.nearest (decide ((o : Int) < 0)) (o : Int).natAbs 0 := rfl
  rw [e1, decide_eq_false (by omega), Int.natAbs_natCast]
  rw [show (k : Int) - ((0 : Nat) : Int) - 1074 = 0 by omega] at he
  have hr' : r = R := near_of_exact (by decide) hr (by rw [h]; unfold pw; exact Nat.mul_one _)
  subst hr'
  rw [he, word_mkW, show min r 9218868437227405312 = r by omega]
  rfl

theorem whole_float {o : Nat} (h1 : o < 9007199254740992) : ∃ R, floatOfInt .f64 (o : Int) = R ∧ V R = o * pw 1074 ∧ R < 9218868437227405312 ∧ (0 < o → 4503599627370496 < R) := by
  by_cases h0 : o = 0
  · subst h0
    exact ⟨0, by decide, by rw [Nat.zero_mul]; rfl, by decide, fun h => by omega⟩
  · obtain ⟨R, e, g1, g2⟩ := whole_rung (by omega) h1
    exact ⟨R, whole_near_is rfl (by omega) e g2, e, g2, fun _ => g1⟩

/-- c is the word of T / q rounded (in units of 2^-1074); a zero has the sign z. -/
def RoundW (T : Int) (q : Nat) (z : Bool) (c : Nat) : Prop := (T = 0 ∧ c = mkW z 0) ∨ (T ≠ 0 ∧ ∃ r, IsNear T.natAbs q r ∧ c = mkW (decide (T < 0)) (min r 9218868437227405312))

theorem roundW_lt {T : Int} {q : Nat} {z : Bool} {c : Nat} (h : RoundW T q z c) : c < 18446744073709551616 := by
  rcases h with ⟨-, rfl⟩ | ⟨-, r, -, rfl⟩
  · exact mkW_lt (by decide)
  · exact mkW_lt (by omega)
theorem roundW_rg {T : Int} {q : Nat} {z : Bool} {c : Nat} (h : RoundW T q z c) : rg c ≤ 9218868437227405312 := by
  rcases h with ⟨-, rfl⟩ | ⟨-, r, -, rfl⟩
  · rw [rg_mkW (by decide)]; omega
  · rw [rg_mkW (by omega)]; omega

/-- The exact number is a float's: then it is the answer. -/
theorem roundW_exact {T : Int} {z : Bool} {c R : Nat} (h : RoundW T 1 z c) (h0 : T ≠ 0) (hV : V R = T.natAbs) (hR : R < 9218868437227405312) : c = mkW (decide (T < 0)) R := by
  rcases h with ⟨h, -⟩ | ⟨-, r, hr, rfl⟩
  · exact absurd h h0
  · have := near_of_exact (by decide) hr (r' := R) (by omega)
    subst this
    rw [show min r 9218868437227405312 = r by omega]

theorem write_num {X T : Int} {j : Nat} (z : Bool) (h : X * ((2 ^ j : Nat) : Int) = T) :
    RoundW T 1 z (Ieee.double.nearest (if X = 0 then z else decide (X < 0)) X.natAbs ((j : Int) - 1074)) := by
  by_cases h0 : X = 0
  · subst h0
    left
    refine ⟨by omega, ?_⟩
    rw [if_pos rfl]
    unfold Ieee.Format.nearest
    rw [if_pos (show Int.natAbs 0 = 0 from rfl), word_mkW]
  · right
    have hj : (0 : Int) < ((2 ^ j : Nat) : Int) := by have := Nat.two_pow_pos j; omega
    have hT : T.natAbs = X.natAbs * 2 ^ j := by rw [← h, Int.natAbs_mul, Int.natAbs_natCast]
    have hs : decide (T < 0) = decide (X < 0) := by
      rcases Int.lt_or_lt_of_ne h0 with hx | hx
      · have : T < 0 := by rw [← h]; exact Int.mul_neg_of_neg_of_pos hx hj
        rw [decide_eq_true this, decide_eq_true hx]
      · have : 0 < T := by rw [← h]; exact Int.mul_pos hx hj
        rw [decide_eq_false (by omega), decide_eq_false (by omega)]
    obtain ⟨r, hr, he⟩ := nearest_is (decide (X < 0)) X.natAbs j 0 (by omega)
    have hT0 : T ≠ 0 := by
      intro hh
      have : X.natAbs * 2 ^ j = 0 := by rw [← hT, hh]; rfl
      rcases Nat.mul_eq_zero.1 this with h1 | h1
      · omega
      · have := Nat.two_pow_pos j; omega
    refine ⟨hT0, r, ?_, ?_⟩
    · rw [hT]; exact hr
    · rw [if_neg h0, hs, ← word_mkW, ← he]
      rw [show (j : Int) - ((0 : Nat) : Int) - 1074 = (j : Int) - 1074 by omega]

theorem sum_nums (s t : Bool) (m n e f : Nat) :
    ∃ X : Int, ∃ j : Nat, (Ieee.Datum.number s m ((e : Int) - 1074)).sum (.number t n ((f : Int) - 1074)) = some (.number (if X = 0 then s && t else decide (X < 0)) X.natAbs ((j : Int) - 1074)) ∧
      X * ((2 ^ j : Nat) : Int) = (if s then -((m * 2 ^ e : Nat) : Int) else ((m * 2 ^ e : Nat) : Int)) + (if t then -((n * 2 ^ f : Nat) : Int) else ((n * 2 ^ f : Nat) : Int)) := by
  obtain ⟨j, hj⟩ : ∃ j : Nat, j = min e f := ⟨_, rfl⟩
  have hmin : min ((e : Int) - 1074) ((f : Int) - 1074) = (j : Int) - 1074 := by omega
  have h1 : ((e : Int) - 1074 - ((j : Int) - 1074)).toNat = e - j := by omega
  have h2 : ((f : Int) - 1074 - ((j : Int) - 1074)).toNat = f - j := by omega
  refine ⟨Ieee.signed s m (e - j) + Ieee.signed t n (f - j), j, ?_, ?_⟩
  · unfold Ieee.Datum.sum
    simp only [hmin, h1, h2]
  · rw [Int.add_mul, signed_scale s m (e - j) j e (by omega), signed_scale t n (f - j) j f (by omega)]

theorem add_fin {a b : Nat} (ha : a < 18446744073709551616) (hb : b < 18446744073709551616) (h1 : rg a < 9218868437227405312) (h2 : rg b < 9218868437227405312) :
    ∃ c, floatBits .add .f64 a b = some c ∧ RoundW (valW a + valW b) 1 (sgn a && sgn b) c := by
  obtain ⟨m, e, r1, v1⟩ := read_fin ha h1
  obtain ⟨n, f, r2, v2⟩ := read_fin hb h2
  obtain ⟨X, j, hs, hX⟩ := sum_nums (sgn a) (sgn b) m n e f
  rw [v1, v2] at hX
  refine ⟨_, ?_, write_num (sgn a && sgn b) hX⟩
  show ((Ieee.double.read a).sum (Ieee.double.read b)).map Ieee.double.write = _
  rw [r1, r2, hs]
  rfl

theorem valW_not {b : Nat} : (if (!sgn b) then -(V (rg b) : Int) else (V (rg b) : Int)) = -valW b := by
  unfold valW
  cases sgn b
  · rfl
  · simp

theorem sub_fin {a b : Nat} (ha : a < 18446744073709551616) (hb : b < 18446744073709551616) (h1 : rg a < 9218868437227405312) (h2 : rg b < 9218868437227405312) :
    ∃ c, floatBits .sub .f64 a b = some c ∧ RoundW (valW a - valW b) 1 (sgn a && !sgn b) c := by
  obtain ⟨m, e, r1, v1⟩ := read_fin ha h1
  obtain ⟨n, f, r2, v2⟩ := read_fin hb h2
  obtain ⟨X, j, hs, hX⟩ := sum_nums (sgn a) (!sgn b) m n e f
  rw [v1, v2, valW_not] at hX
  refine ⟨_, ?_, write_num (sgn a && !sgn b) (T := valW a - valW b) (by rw [hX]; rfl)⟩
  show ((Ieee.double.read a).sum (Ieee.double.read b).opposite).map Ieee.double.write = _
  rw [r1, r2]
  show ((Ieee.Datum.number (sgn a) m ((e : Int) - 1074)).sum (Ieee.Datum.number (!sgn b) n ((f : Int) - 1074))).map Ieee.double.write = _
  rw [hs]
  rfl

theorem near_zero {q : Nat} (hq : 0 < q) : IsNear 0 q 0 :=
  ⟨fun s hs => by omega, Nat.zero_le _, fun h => by
    have : 0 < V 0 + V (0 + 1) := by have := V_succ 0; omega
    have := Nat.mul_pos this hq
    omega⟩

theorem mul_fin {a b : Nat} (ha : a < 18446744073709551616) (hb : b < 18446744073709551616) (h1 : rg a < 9218868437227405312) (h2 : rg b < 9218868437227405312) :
    ∃ c r, floatBits .mul .f64 a b = some c ∧ IsNear (V (rg a) * V (rg b)) (pw 1074) r ∧ c = mkW (sgn a ^^ sgn b) (min r 9218868437227405312) := by
  obtain ⟨m, e, r1, v1⟩ := read_fin ha h1
  obtain ⟨n, f, r2, v2⟩ := read_fin hb h2
  have hp : ∀ g : Nat, g = e + f → m * n * 2 ^ g = V (rg a) * V (rg b) := by
    intro g hg
    rw [hg, ← v1, ← v2, Nat.pow_add, Nat.mul_mul_mul_comm]
  have hw : floatBits .mul .f64 a b = some (Ieee.double.nearest (sgn a ^^ sgn b) (m * n) ((e : Int) - 1074 + ((f : Int) - 1074))) := by
    show ((Ieee.double.read a).product (Ieee.double.read b)).map Ieee.double.write = _
    rw [r1, r2]
    rfl
  by_cases h0 : m * n = 0
  · refine ⟨_, 0, hw, ?_, ?_⟩
    · rw [← hp _ rfl, h0, Nat.zero_mul]
      exact near_zero (pw_pos _)
    · unfold Ieee.Format.nearest
      rw [if_pos h0, word_mkW]
      rfl
  · obtain ⟨k, hk⟩ : ∃ k : Nat, k = 1074 := ⟨_, rfl⟩
    obtain ⟨r, hr, he⟩ := nearest_is (sgn a ^^ sgn b) (m * n) (e + f) k (Nat.pos_of_ne_zero h0)
    refine ⟨_, r, hw, ?_, ?_⟩
    · rw [← hp _ rfl, ← hk]; exact hr
    · rw [← word_mkW, ← he]
      rw [show ((e + f : Nat) : Int) - (k : Int) - 1074 = (e : Int) - 1074 + ((f : Int) - 1074) by omega]


/-- A whole number's float. -/
def FI (n : Int) : Nat := floatOfInt .f64 n
/-- Its rung. -/
theorem fi_form {n : Int} (h : n.natAbs < 9007199254740992) : ∃ R, FI n = mkW (decide (n < 0)) R ∧ V R = n.natAbs * pw 1074 ∧ R < 9218868437227405312 ∧ (n = 0 → R = 0) := by
  by_cases h0 : n = 0
  · subst h0
    exact ⟨0, by decide, by rw [show Int.natAbs 0 = 0 from rfl, Nat.zero_mul]; rfl, by decide, fun _ => rfl⟩
  · obtain ⟨R, hV, h1, h2⟩ := whole_rung (o := n.natAbs) (by omega) h
    refine ⟨R, ?_, hV, h2, fun h => absurd h h0⟩
    obtain ⟨k, hk⟩ : ∃ k, k = 1074 := ⟨_, rfl⟩
    obtain ⟨r, hr, he⟩ := nearest_is (decide (n < 0)) n.natAbs k 0 (by omega)
    have e1 : FI n = Ieee.double.nearest (decide (n < 0)) n.natAbs 0 := rfl
    rw [show (k : Int) - ((0 : Nat) : Int) - 1074 = 0 by omega] at he
    have hr' : r = R := near_of_exact (by decide) hr (by rw [hV, hk]; unfold pw; exact Nat.mul_one _)
    subst hr'
    rw [e1, he, word_mkW, show min r 9218868437227405312 = r by omega]

theorem fi_lt {n : Int} (h : n.natAbs < 9007199254740992) : FI n < 18446744073709551616 := by
  obtain ⟨R, e, -, h2, -⟩ := fi_form h
  rw [e]; exact mkW_lt (by omega)
theorem fi_rg {n : Int} (h : n.natAbs < 9007199254740992) : rg (FI n) < 9218868437227405312 := by
  obtain ⟨R, e, -, h2, -⟩ := fi_form h
  rw [e, rg_mkW (by omega)]; exact h2
theorem fi_sgn {n : Int} (h : n.natAbs < 9007199254740992) : sgn (FI n) = decide (n < 0) := by
  obtain ⟨R, e, -, h2, -⟩ := fi_form h
  rw [e, sgn_mkW (by omega)]
theorem fi_val {n : Int} (h : n.natAbs < 9007199254740992) : valW (FI n) = n * (pw 1074 : Int) := by
  obtain ⟨R, e, hV, h2, -⟩ := fi_form h
  unfold valW
  rw [e, sgn_mkW (by omega), rg_mkW (by omega), hV]
  generalize pw 1074 = p
  by_cases hn : n < 0
  · rw [decide_eq_true hn, if_pos rfl]
    have : (n.natAbs : Int) = -n := by omega
    push_cast
    rw [this, Int.neg_mul, Int.neg_neg]
  · rw [decide_eq_false hn, if_neg (by decide)]
    have : (n.natAbs : Int) = n := by omega
    push_cast
    rw [this]
theorem fi_zero : FI 0 = 0 := by decide
theorem fi_nan {n : Int} (h : n.natAbs < 9007199254740992) : ¬ 9218868437227405312 < rg (FI n) := by have := fi_rg h; omega

/-- What rounds to a whole number's multiple is its float. -/
theorem round_fi {n : Int} {z : Bool} {c : Nat} (h : n.natAbs < 9007199254740992) (hz : n = 0 → z = false) (hr : RoundW (n * (pw 1074 : Int)) 1 z c) : c = FI n := by
  have hp := pw_pos 1074
  obtain ⟨R, e, hV, h2, h3⟩ := fi_form h
  generalize pw 1074 = p at *
  by_cases h0 : n = 0
  · subst h0
    rcases hr with ⟨-, rfl⟩ | ⟨h1, -⟩
    · rw [hz rfl, fi_zero]; rfl
    · rw [Int.zero_mul] at h1; exact absurd rfl h1
  · have hT : n * (p : Int) ≠ 0 := Int.mul_ne_zero h0 (by omega)
    have hs : decide (n * (p : Int) < 0) = decide (n < 0) := by
      by_cases hn : n < 0
      · rw [decide_eq_true hn, decide_eq_true (Int.mul_neg_of_neg_of_pos hn (by omega))]
      · have : 0 < n * (p : Int) := Int.mul_pos (by omega) (by omega)
        rw [decide_eq_false hn, decide_eq_false (by omega)]
    have := roundW_exact hr hT (R := R) (by rw [hV, Int.natAbs_mul, Int.natAbs_natCast]) h2
    rw [this, hs, e]

theorem fA_of {op : BinOp} {a b c : Nat} (h : floatBits op .f64 a b = some c) : fA op a b = c := by unfold fA; rw [h]

theorem fi_add {a b : Int} (ha : a.natAbs < 9007199254740992) (hb : b.natAbs < 9007199254740992) (hc : (a + b).natAbs < 9007199254740992) : fA .add (FI a) (FI b) = FI (a + b) := by
  obtain ⟨c, h1, h2⟩ := add_fin (fi_lt ha) (fi_lt hb) (fi_rg ha) (fi_rg hb)
  rw [fA_of h1]
  rw [fi_val ha, fi_val hb, ← Int.add_mul, fi_sgn ha, fi_sgn hb] at h2
  refine round_fi hc (fun h0 => ?_) h2
  by_cases h : a < 0
  · rw [decide_eq_false (show ¬ b < 0 by omega), Bool.and_false]
  · rw [decide_eq_false h, Bool.false_and]
theorem fi_sub {a b : Int} (ha : a.natAbs < 9007199254740992) (hb : b.natAbs < 9007199254740992) (hc : (a - b).natAbs < 9007199254740992) : fA .sub (FI a) (FI b) = FI (a - b) := by
  obtain ⟨c, h1, h2⟩ := sub_fin (fi_lt ha) (fi_lt hb) (fi_rg ha) (fi_rg hb)
  rw [fA_of h1]
  rw [fi_val ha, fi_val hb, ← Int.sub_mul, fi_sgn ha, fi_sgn hb] at h2
  refine round_fi hc (fun h0 => ?_) h2
  obtain rfl : a = b := by omega
  cases decide (a < 0) <;> rfl

/-- Minus nothing. -/
def NZ : Nat := 9223372036854775808
theorem nz_facts : NZ < 18446744073709551616 ∧ rg NZ < 9218868437227405312 ∧ valW NZ = 0 ∧ sgn NZ = true := by
  refine ⟨by decide, by decide, ?_, by decide⟩
  unfold valW
  rw [show rg NZ = 0 by decide, V_zero]
  split <;> rfl
theorem nz_add {b : Int} (hb : b.natAbs < 9007199254740992) : fA .add NZ (FI b) = FI b := by
  obtain ⟨z1, z2, z3, z4⟩ := nz_facts
  obtain ⟨c, h1, h2⟩ := add_fin z1 (fi_lt hb) z2 (fi_rg hb)
  rw [fA_of h1]
  rw [z3, z4, fi_val hb, fi_sgn hb, Int.zero_add] at h2
  exact round_fi hb (fun h0 => by subst h0; rfl) h2
theorem add_nz {b : Int} (hb : b.natAbs < 9007199254740992) : fA .add (FI b) NZ = FI b := by
  obtain ⟨z1, z2, z3, z4⟩ := nz_facts
  obtain ⟨c, h1, h2⟩ := add_fin (fi_lt hb) z1 (fi_rg hb) z2
  rw [fA_of h1]
  rw [z3, z4, fi_val hb, fi_sgn hb, Int.add_zero] at h2
  exact round_fi hb (fun h0 => by subst h0; rfl) h2
theorem nz_sub {b : Int} (hb : b.natAbs < 9007199254740992) : fA .sub NZ (FI b) = if b = 0 then NZ else FI (-b) := by
  obtain ⟨z1, z2, z3, z4⟩ := nz_facts
  obtain ⟨c, h1, h2⟩ := sub_fin z1 (fi_lt hb) z2 (fi_rg hb)
  rw [fA_of h1]
  rw [z3, z4, fi_val hb, fi_sgn hb, Int.zero_sub, ← Int.neg_mul] at h2
  split
  · rename_i h0
    subst h0
    rcases h2 with ⟨-, rfl⟩ | ⟨h, -⟩
    · rfl
    · exact absurd (by rw [Int.neg_zero, Int.zero_mul]) h
  · rename_i h0
    exact round_fi (by omega) (fun h => absurd h (by omega)) h2

/-- The order of whole numbers is that of their floats. -/
theorem rk_fi {a b : Int} (ha : a.natAbs < 9007199254740992) (hb : b.natAbs < 9007199254740992) : rk (FI a) ≤ rk (FI b) ↔ a ≤ b := by
  obtain ⟨R, e, hV, h2, h3⟩ := fi_form ha
  obtain ⟨R', e', hV', h2', h3'⟩ := fi_form hb
  have hp := pw_pos 1074
  generalize pw 1074 = p at *
  have k1 : rk (FI a) = if a < 0 then -1 - (R : Int) else R := by
    unfold rk
    rw [e, rg_mkW (by omega), sgn_mkW (by omega), if_neg (by omega)]
    by_cases h : a < 0
    · rw [decide_eq_true h, if_pos rfl, if_pos h]
    · rw [decide_eq_false h, if_neg (by decide), if_neg h]
  have k2 : rk (FI b) = if b < 0 then -1 - (R' : Int) else R' := by
    unfold rk
    rw [e', rg_mkW (by omega), sgn_mkW (by omega), if_neg (by omega)]
    by_cases h : b < 0
    · rw [decide_eq_true h, if_pos rfl, if_pos h]
    · rw [decide_eq_false h, if_neg (by decide), if_neg h]
  have hle : R ≤ R' ↔ a.natAbs ≤ b.natAbs := by
    constructor
    · intro h
      have := V_le h
      rw [hV, hV'] at this
      exact Nat.le_of_mul_le_mul_right this hp
    · intro h
      refine Nat.le_of_not_lt fun hn => ?_
      have := V_lt hn
      rw [hV, hV'] at this
      have := Nat.lt_of_mul_lt_mul_right this
      omega
  have hle' : R' ≤ R ↔ b.natAbs ≤ a.natAbs := by
    constructor
    · intro h
      have := V_le h
      rw [hV, hV'] at this
      exact Nat.le_of_mul_le_mul_right this hp
    · intro h
      refine Nat.le_of_not_lt fun hn => ?_
      have := V_lt hn
      rw [hV, hV'] at this
      have := Nat.lt_of_mul_lt_mul_right this
      omega
  rw [k1, k2]
  by_cases h : a < 0 <;> by_cases h' : b < 0
  · rw [if_pos h, if_pos h']; omega
  · rw [if_pos h, if_neg h']; omega
  · rw [if_neg h, if_pos h']; omega
  · rw [if_neg h, if_neg h']; omega
end Go.Proofs.Ytecbbdbeihiioaa
