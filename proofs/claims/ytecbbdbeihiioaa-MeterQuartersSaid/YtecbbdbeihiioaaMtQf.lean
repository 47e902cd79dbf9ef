/- Plain law: a quantile lies between its neighbours, and rises with its share. No program's run in this text. -/
import Derived.Test.YtecbbdbeihiioaaMtQp
import Derived.Test.YtecbbdbeihiioaaMtQa
namespace Go.Proofs.Ytecbbdbeihiioaa
open Go.RowKit
set_option linter.unusedVariables false

/-- A float's step is small beside it. -/
theorem gap {r : Nat} (h : 9007199254740992 < r) : 4503599627370496 * (V r - V (r - 1)) < V r := by
  obtain ⟨E, k, rfl, hk, hE⟩ := rung_form r
  have hE1 : 1 ≤ E := by omega
  have hk1 : 4503599627370496 ≤ k := by omega
  by_cases hk2 : k = 4503599627370496
  · subst hk2
    obtain ⟨G, rfl⟩ : ∃ G, E = G + 1 := ⟨E - 1, by omega⟩
    have e1 : V ((G + 1) * 4503599627370496 + 4503599627370496) = 9007199254740992 * 2 ^ G := by
      rw [V_at (by omega) (Or.inr (by omega)), Nat.pow_succ]; omega
    have e2 : V ((G + 1) * 4503599627370496 + 4503599627370496 - 1) = 9007199254740991 * 2 ^ G := by
      rw [show (G + 1) * 4503599627370496 + 4503599627370496 - 1 = G * 4503599627370496 + 9007199254740991 by omega, V_at (by omega) (Or.inr (by omega))]
    rw [e1, e2]
    have := Nat.two_pow_pos G
    omega
  · have e1 : V (E * 4503599627370496 + k) = k * 2 ^ E := V_at (by omega) (Or.inr hk1)
    have e2 : V (E * 4503599627370496 + k - 1) = (k - 1) * 2 ^ E := by
      rw [show E * 4503599627370496 + k - 1 = E * 4503599627370496 + (k - 1) by omega, V_at (by omega) (Or.inr (by omega))]
    rw [e1, e2]
    have h2 := Nat.two_pow_pos E
    have e3 : k * 2 ^ E = (k - 1) * 2 ^ E + 2 ^ E := by
      rw [show k * 2 ^ E = (k - 1 + 1) * 2 ^ E by rw [show k - 1 + 1 = k by omega], Nat.add_mul, Nat.one_mul]
    rw [e3, Nat.add_sub_cancel_left, ← e3]
    exact Nat.mul_lt_mul_of_pos_right (by omega) h2

theorem V_dvd' {s j : Nat} (h : (j + 1) * 4503599627370496 ≤ s) : ∃ x, V s = x * 2 ^ j := by
  obtain ⟨E, k, rfl, hk, h'⟩ := rung_form s
  have hE : j ≤ E := by omega
  refine ⟨k * 2 ^ (E - j), ?_⟩
  rw [V_at (by omega) h', Nat.mul_assoc, ← Nat.pow_add, Nat.sub_add_cancel hE]

theorem v_small {r : Nat} (h : r ≤ 9007199254740992) : V r = r := by
  have := V_at (E := 0) (k := r) h (Or.inl rfl)
  rw [Nat.zero_mul, Nat.zero_add, Nat.pow_zero, Nat.mul_one] at this
  exact this

theorem cut53 {A B F P Q : Nat} (hQ : 0 < Q) (hP : P = 9007199254740992 * Q) (hF : F + Q ≤ P) (h : (A + B) * P ≤ 2 * (F * B)) : 9007199254740992 * A + 2 * B ≤ 9007199254740992 * B := by
  subst hP
  have hF' : F ≤ 9007199254740991 * Q := by omega
  have h1 : 2 * (F * B) ≤ 2 * (9007199254740991 * Q * B) := Nat.mul_le_mul_left 2 (Nat.mul_le_mul_right B hF')
  have h2 : (9007199254740992 * (A + B)) * Q ≤ (2 * 9007199254740991 * B) * Q := by
    have e1 : (A + B) * (9007199254740992 * Q) = 9007199254740992 * (A + B) * Q := by
      rw [← Nat.mul_assoc, Nat.mul_comm (A + B)]
    have e2 : 2 * (9007199254740991 * Q * B) = 2 * 9007199254740991 * B * Q := by
      rw [Nat.mul_assoc, Nat.mul_comm Q B, ← Nat.mul_assoc, ← Nat.mul_assoc]
    rw [e1] at h
    rw [e2] at h1
    exact Nat.le_trans h h1
  have := Nat.le_of_mul_le_mul_right h2 hQ
  omega

theorem pw_53 : pw 1074 = 9007199254740992 * pw 1021 := by
  obtain ⟨J, hJ⟩ : ∃ J : Nat, J = 1074 := ⟨_, rfl⟩
  obtain ⟨K, hK⟩ : ∃ K : Nat, K = 1021 := ⟨_, rfl⟩
  rw [← hJ, ← hK, pw_eq, pw_eq, show J = 53 + K by omega, Nat.pow_add]

/-- A share less than one of a rounded distance does not go beyond the distance. -/
theorem share_le {D rd F rt : Nat} (hd : IsNear D 1 rd) (hF : F + pw 1021 ≤ pw 1074) (ht : IsNear (F * V rd) (pw 1074) rt) : V rt ≤ D := by
  have hp := pw_pos 1074
  have hq := pw_pos 1021
  have h53 := pw_53
  generalize pw 1074 = P at *
  generalize pw 1021 = Q at *
  by_cases h : V rd ≤ D
  · have : rt ≤ rd := near_mono hp hp ht (near_exact (r := rd) hp rfl) (Nat.mul_le_mul_right _ (by rw [Nat.mul_comm (V rd)]; exact Nat.mul_le_mul_right _ (by omega)))
    exact Nat.le_trans (V_le this) h
  · have hbig : 9007199254740992 < rd := by
      refine Nat.lt_of_not_le fun hs => ?_
      rw [v_small hs] at h
      have : rd = D := near_of_exact (by decide) hd (by rw [v_small (by omega), Nat.mul_one])
      omega
    obtain ⟨s, rfl⟩ : ∃ s, rd = s + 1 := ⟨rd - 1, by omega⟩
    have h1 := (hd.1 s rfl).1
    have hvs := V_succ s
    suffices hh : rt ≤ s by
      have := V_le hh
      omega
    refine Nat.le_of_not_lt fun hn => ?_
    obtain ⟨s', rfl⟩ : ∃ s', rt = s' + 1 := ⟨rt - 1, by omega⟩
    have h2 := (ht.1 s' rfl).1
    have h3 : V s ≤ V s' := V_le (by omega)
    have h4 : V (s + 1) ≤ V (s' + 1) := V_le (by omega)
    have h5 : (V s + V (s + 1)) * P ≤ 2 * (F * V (s + 1)) := Nat.le_trans (Nat.mul_le_mul_right P (by omega)) h2
    have h6 := cut53 hq h53 hF h5
    have h7 := gap hbig
    rw [Nat.add_sub_cancel] at h7
    omega

theorem keyW_mk {s : Bool} {r : Nat} (h : r < 9223372036854775808) : keyW (mkW s r) = if s then -(r : Int) else (r : Int) := by
  unfold keyW
  rw [sgn_mkW h, rg_mkW h]

/-- Rounding keeps the order. -/
theorem round_le {T T' : Int} {z z' : Bool} {c c' : Nat} (h : RoundW T 1 z c) (h' : RoundW T' 1 z' c') (hle : T ≤ T') : keyW c ≤ keyW c' := by
  rcases h with ⟨rfl, rfl⟩ | ⟨h0, r, hr, rfl⟩ <;> rcases h' with ⟨rfl, rfl⟩ | ⟨h0', r', hr', rfl⟩
  · rw [keyW_mk (by decide), keyW_mk (by decide)]; split <;> split <;> omega
  · rw [keyW_mk (by decide), keyW_mk (by omega), decide_eq_false (by omega), if_neg (by decide : ¬ false = true)]; split <;> omega
  · rw [keyW_mk (by omega), keyW_mk (by decide), decide_eq_true (by omega), if_pos rfl]; split <;> omega
  · rw [keyW_mk (by omega), keyW_mk (by omega)]
    by_cases c1 : T < 0
    · by_cases c2 : T' < 0
      · have := near_mono (by decide) (by decide) hr' hr (by omega)
        rw [decide_eq_true c1, decide_eq_true c2, if_pos rfl, if_pos rfl]; omega
      · rw [decide_eq_true c1, decide_eq_false c2, if_pos rfl, if_neg (by decide : ¬ false = true)]; omega
    · have := near_mono (by decide) (by decide) hr hr' (by omega)
      rw [decide_eq_false c1, decide_eq_false (by omega), if_neg (by decide : ¬ false = true), if_neg (by decide : ¬ false = true)]; omega

/-- A float is its own rounding. -/
theorem round_self {b : Nat} (hb : b < 18446744073709551616) (hf : rg b < 9218868437227405312) : RoundW (valW b) 1 (sgn b) b := by
  have hself := mkW_self hb
  by_cases h0 : rg b = 0
  · left
    refine ⟨?_, by rw [← h0]; exact hself.symm⟩
    unfold valW
    rw [h0, V_zero]
    split <;> rfl
  · have hV : 0 < V (rg b) := by
      have := V_lt (show 0 < rg b by omega)
      rwa [V_zero] at this
    right
    have hsg : decide (valW b < 0) = sgn b := by
      unfold valW
      cases sgn b
      · simp
      · simp; omega
    have hab : (valW b).natAbs = V (rg b) := by
      unfold valW
      cases sgn b <;> simp
    refine ⟨by intro h; rw [h] at hab; simp at hab; omega, rg b, ?_, ?_⟩
    · rw [hab]; exact near_exact (by decide) (Nat.mul_one _)
    · rw [hsg, show min (rg b) 9218868437227405312 = rg b by omega]; exact hself.symm

theorem key_le {a b : Nat} (h : valW a ≤ valW b) : keyW a ≤ keyW b := by
  have k := @key_val a b
  rcases Int.lt_trichotomy (keyW a) (keyW b) with h1 | h1 | h1
  · omega
  · omega
  · have e : compare (keyW a) (keyW b) = .gt := by
      rw [Int.compare_eq_gt]; exact h1
    rw [e, Int.compare_eq_gt] at k
    omega
theorem val_le {a b : Nat} (h : keyW a ≤ keyW b) : valW a ≤ valW b := by
  have k := @key_val a b
  rcases Int.lt_trichotomy (valW a) (valW b) with h1 | h1 | h1
  · omega
  · omega
  · have e : compare (valW a) (valW b) = .gt := by
      rw [Int.compare_eq_gt]; exact h1
    rw [e] at k
    have := (Int.compare_eq_gt).1 k.symm
    omega

/-- Less than 2^1000 in size. -/
def Mid (x : Nat) : Prop := x < 18446744073709551616 ∧ rg x < 9110782046170513408
theorem v_mid {r : Nat} (h : r ≤ 9110782046170513408) : V r ≤ pw 2074 := by
  obtain ⟨K, hK⟩ : ∃ K : Nat, K = 2022 := ⟨_, rfl⟩
  obtain ⟨J, hJ⟩ : ∃ J : Nat, J = 2074 := ⟨_, rfl⟩
  have e := V_at (E := K) (k := 4503599627370496) (by decide) (Or.inr (Nat.le_refl _))
  rw [show K * 4503599627370496 + 4503599627370496 = 9110782046170513408 by omega] at e
  have := V_le h
  rw [e] at this
  rw [← hJ, pw_eq, show J = 52 + K by omega, Nat.pow_add]
  exact this
theorem v_big : V 9115285645797883904 = 2 * pw 2074 := by
  obtain ⟨K, hK⟩ : ∃ K : Nat, K = 2023 := ⟨_, rfl⟩
  obtain ⟨J, hJ⟩ : ∃ J : Nat, J = 2074 := ⟨_, rfl⟩
  have e := V_at (E := K) (k := 4503599627370496) (by decide) (Or.inr (Nat.le_refl _))
  rw [show K * 4503599627370496 + 4503599627370496 = 9115285645797883904 by omega] at e
  rw [e, ← hJ, pw_eq, show (2 : Nat) * 2 ^ J = 2 ^ 1 * 2 ^ J by rfl, ← Nat.pow_add, show (4503599627370496 : Nat) = 2 ^ 52 by decide, ← Nat.pow_add, show 52 + K = 1 + J by omega]

/-- The walk between two neighbours. -/
theorem qv_form {a b f : Nat} (ha : Mid a) (hb : Mid b) (hab : valW a ≤ valW b) (hfl : f < 18446744073709551616) (hF : V (rg f) + pw 1021 ≤ pw 1074) (hff : rg f < 9218868437227405312) (hfs : sgn f = true → rg f = 0) :
    ∃ rt z x, fA .add a (fA .mul f (fA .sub b a)) = x ∧ IsNear (V (rg f) * V (rg (fA .sub b a))) (pw 1074) rt ∧ RoundW (valW a + (V rt : Int)) 1 z x ∧ valW a + (V rt : Int) ≤ valW b := by
  obtain ⟨a1, a2⟩ := ha
  obtain ⟨b1, b2⟩ := hb
  have va := v_mid (r := rg a) (by omega)
  have vb := v_mid (r := rg b) (by omega)
  have ba : -(pw 2074 : Int) ≤ valW a ∧ valW a ≤ pw 2074 := by unfold valW; split <;> omega
  have bb : -(pw 2074 : Int) ≤ valW b ∧ valW b ≤ pw 2074 := by unfold valW; split <;> omega
  obtain ⟨d, hd, hrd⟩ := sub_fin b1 a1 (by omega) (by omega)
  rw [fA_of hd]
  obtain ⟨D, hD⟩ : ∃ D : Nat, (D : Int) = valW b - valW a := ⟨(valW b - valW a).toNat, by omega⟩
  rw [← hD] at hrd
  have hdl := roundW_lt hrd
  have hDb : D ≤ 2 * pw 2074 := by omega
  have hd3 : IsNear D 1 (rg d) ∧ rg d < 9218868437227405312 ∧ (sgn d = true → rg d = 0) := by
    rcases hrd with ⟨h0, rfl⟩ | ⟨h0, r, hr, rfl⟩
    · have : D = 0 := by omega
      subst this
      rw [rg_mkW (by decide)]
      exact ⟨near_zero (by decide), by decide, fun _ => rfl⟩
    · rw [Int.natAbs_natCast] at hr
      have hrb : r ≤ 9115285645797883904 := near_mono (by decide) (by decide) hr (near_exact (r := 9115285645797883904) (q := 1) (p := 2 * pw 2074) (by decide) (by rw [v_big, Nat.mul_one])) (by omega)
      rw [show min r 9218868437227405312 = r by omega, rg_mkW (by omega), decide_eq_false (by omega), sgn_mkW (by omega)]
      exact ⟨hr, by omega, fun h => by cases h⟩
  obtain ⟨hd1, hd2, hds⟩ := hd3
  obtain ⟨t, rt, ht, hrt, htw⟩ := mul_fin hfl hdl hff hd2
  have hvt := share_le hd1 hF hrt
  have hrt2 : rt ≤ 9115285645797883904 := by
    refine Nat.le_of_not_lt fun hn => ?_
    have := V_lt hn
    rw [v_big] at this
    omega
  rw [show min rt 9218868437227405312 = rt by omega] at htw
  have htg : rg t = rt := by rw [htw]; exact rg_mkW (by omega)
  have hts : sgn t = (sgn f ^^ sgn d) := by rw [htw]; exact sgn_mkW (by omega)
  have htl : t < 18446744073709551616 := by rw [htw]; exact mkW_lt (by omega)
  have hvalt : valW t = (V rt : Int) := by
    unfold valW
    rw [htg, hts]
    have hz : (V (rg f) * V (rg d) = 0) → rt = 0 := fun h => by
      rw [h] at hrt
      exact near_same (pw_pos _) (pw_pos _) hrt (near_zero (pw_pos 1074)) rfl
    cases hsf : sgn f <;> cases hsd : sgn d
    · rfl
    · rw [hz (by rw [hds hsd, V_zero, Nat.mul_zero]), V_zero]; rfl
    · rw [hz (by rw [hfs hsf, V_zero, Nat.zero_mul]), V_zero]; rfl
    · rfl
  obtain ⟨x, hx, hrx⟩ := add_fin a1 htl (by omega) (by omega)
  rw [hvalt] at hrx
  refine ⟨rt, _, x, ?_, hrt, hrx, ?_⟩
  · rw [fA_of ht, fA_of hx]
  · omega
end Go.Proofs.Ytecbbdbeihiioaa
