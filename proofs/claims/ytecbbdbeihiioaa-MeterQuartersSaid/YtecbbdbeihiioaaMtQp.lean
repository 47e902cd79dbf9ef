/- Plain law: a quantile's place in the list. No program's run in this text. -/
import Derived.Test.YtecbbdbeihiioaaMtFlM
namespace Go.Proofs.Ytecbbdbeihiioaa
open Go.RowKit
set_option linter.unusedVariables false

theorem cut_zero (s : Bool) (n d : Nat) : Ieee.Toward.zero.cut s n d = n / 2 ^ d := by
  unfold Ieee.Toward.cut
  simp only [Nat.one_shiftLeft, Bool.toNat_false, Nat.add_zero]
  by_cases hd : d ≤ n.log2 + 2
  · rw [Nat.min_eq_left hd]
  · rw [Nat.min_eq_right (by omega)]
    have h1 := @Nat.lt_log2_self n
    have h2 : 2 ^ (n.log2 + 1) ≤ 2 ^ (n.log2 + 2) := Nat.pow_le_pow_right (by decide) (by omega)
    have h3 : 2 ^ (n.log2 + 2) ≤ 2 ^ d := Nat.pow_le_pow_right (by decide) (by omega)
    rw [Nat.div_eq_of_lt (by omega), Nat.div_eq_of_lt (by omega)]

theorem pw_eq (k : Nat) : pw k = 2 ^ k := rfl
/-- A float cut to a whole number. -/
theorem int_of {p t : Nat} (hp : p < 18446744073709551616) (h1 : rg p < 9218868437227405312) (hs : sgn p = true → rg p = 0) (ht : V (rg p) / pw 1074 = t) (hb : t < 4611686018427387904) : floatToIntVal .f64 p .i64 = some (t : Int) := by
  obtain ⟨m, e, hr, hv⟩ := read_fin hp h1
  obtain ⟨K, hK⟩ : ∃ K : Nat, K = 1074 := ⟨_, rfl⟩
  have hcut : Ieee.Toward.zero.cut (sgn p) (m <<< ((e : Int) - 1074).toNat) (-((e : Int) - 1074)).toNat = t := by
    rw [cut_zero, Nat.shiftLeft_eq, ← ht, ← hv, pw_eq, ← hK]
    by_cases he : K ≤ e
    · rw [show (-((e : Int) - 1074)).toNat = 0 by omega, show ((e : Int) - 1074).toNat = e - K by omega, Nat.pow_zero, Nat.div_one]
      rw [show m * 2 ^ e = m * 2 ^ (e - K) * 2 ^ K by rw [Nat.mul_assoc, ← Nat.pow_add, show e - K + K = e by omega], Nat.mul_div_cancel _ (Nat.two_pow_pos _)]
    · rw [show ((e : Int) - 1074).toNat = 0 by omega, show (-((e : Int) - 1074)).toNat = K - e by omega, Nat.pow_zero, Nat.mul_one]
      rw [show 2 ^ K = 2 ^ (K - e) * 2 ^ e by rw [← Nat.pow_add, show K - e + e = K by omega], Nat.mul_div_mul_right _ _ (Nat.two_pow_pos _)]
  have hti : (Ieee.double.read p).toInt .zero = some (t : Int) := by
    rw [hr]
    show some (Ieee.signed (sgn p) (Ieee.Toward.zero.cut (sgn p) (m <<< ((e : Int) - 1074).toNat) (-((e : Int) - 1074)).toNat) 0) = _
    rw [hcut]
    unfold Ieee.signed
    cases hsg : sgn p
    · simp
    · have : t = 0 := by
        rw [← ht, hs hsg, V_zero, Nat.zero_div]
      subst this
      rfl
  have e2 : IntKind.i64.max = 9223372036854775807 := by decide
  have e1 : IntKind.i64.min = -9223372036854775808 := by decide
  have hti' : (FloatKind.f64.decode p).toInt .zero = some (t : Int) := hti
  unfold floatToIntVal
  rw [hti']
  simp only [e1, e2]
  rw [if_pos (by omega)]

theorem v_one' : V 4607182418800017408 = pw 1074 := by
  obtain ⟨K, hK⟩ : ∃ K : Nat, K = 1022 := ⟨_, rfl⟩
  obtain ⟨J, hJ⟩ : ∃ J : Nat, J = 1074 := ⟨_, rfl⟩
  have h := V_at (E := K) (k := 4503599627370496) (by decide) (Or.inr (Nat.le_refl _))
  rw [show K * 4503599627370496 + 4503599627370496 = 4607182418800017408 by omega] at h
  rw [h, ← hJ, pw_eq, show J = 52 + K by omega, Nat.pow_add]

theorem key_fi {i : Nat} (hi : i < 9007199254740992) : ∃ R, FI (i : Int) = R ∧ V R = i * pw 1074 ∧ R < 9218868437227405312 ∧ keyW (FI (i : Int)) = (R : Int) := by
  obtain ⟨R, e, hV, h2, h3⟩ := fi_form (n := (i : Int)) (by omega)
  rw [decide_eq_false (by omega)] at e
  have e' : FI (i : Int) = R := e
  refine ⟨R, e', by rw [hV]; rfl, h2, ?_⟩
  rw [e']
  unfold keyW
  rw [sgn_pos (by omega), rg_pos (by omega)]
  rfl

structure QuAt (q p ti f : Nat) (n : Nat) : Prop where
  mul : floatBits .mul .f64 q (FI (n : Int)) = some p
  int : floatToIntVal .f64 p .i64 = some (ti : Int)
  le : ti ≤ n
  sub : floatBits .sub .f64 p (FI (ti : Int)) = some f
  plt : p < 18446744073709551616
  flt : f < 18446744073709551616
  cmp : ∀ i : Nat, i ≤ 5000 → (i ≤ ti ∧ ((FloatKind.f64.format.order (FI (i : Int)) p == some .lt) = true ∨ ((FloatKind.f64.format.order (FI (i : Int)) p == some .lt) = false ∧ (FloatKind.f64.format.order (FI (i : Int)) p == some .eq) = true))) ∨ (ti < i ∧ (FloatKind.f64.format.order (FI (i : Int)) p == some .lt) = false ∧ (FloatKind.f64.format.order (FI (i : Int)) p == some .eq) = false)

theorem qu_at {q n : Nat} (hq : q < 18446744073709551616) (hqn : ¬ 9218868437227405312 < rg q) (h0 : (FloatKind.f64.format.order q 0 == some .lt) = false) (h1 : (FloatKind.f64.format.order q 4607182418800017408 == some .gt) = false) (hn : n ≤ 4095) : ∃ p ti f, QuAt q p ti f n := by
  have o1 : okW q = true := by unfold okW; exact decide_eq_true (by omega)
  have k0 : (sgn q = true → rg q = 0) ∧ rg q ≤ 4607182418800017408 := by
    rw [ord_lt hq (by decide), o1, show okW 0 = true by decide, show keyW 0 = 0 by decide] at h0
    rw [ord_gt hq (by decide), o1, show okW 4607182418800017408 = true by decide, show keyW 4607182418800017408 = 4607182418800017408 by decide] at h1
    simp only [Bool.true_and, decide_eq_false_iff_not] at h0 h1
    unfold keyW at h0 h1
    cases hs : sgn q
    · rw [hs] at h1; simp at h1; exact ⟨fun h => (by cases h), by omega⟩
    · rw [hs] at h0; simp at h0; exact ⟨fun _ => by omega, by omega⟩
  obtain ⟨k1, k2⟩ := k0
  have hfn : (n : Int).natAbs < 9007199254740992 := by omega
  obtain ⟨R, eR, hV, hR, -⟩ := key_fi (i := n) (by omega)
  have hsn : sgn (FI (n : Int)) = false := by rw [fi_sgn hfn]; exact decide_eq_false (by omega)
  have hrn : rg (FI (n : Int)) = R := by rw [eR]; exact rg_pos (by omega)
  obtain ⟨p, r, hm, hr, hp⟩ := mul_fin hq (fi_lt hfn) (by omega) (fi_rg hfn)
  rw [hsn, Bool.xor_false] at hp
  rw [hrn] at hr
  have hpw := pw_pos 1074
  have hle : V (rg q) ≤ pw 1074 := by rw [← v_one']; exact V_le k2
  have hrR : r ≤ R := by
    refine near_mono hpw hpw hr (near_exact (r := R) hpw rfl) ?_
    exact Nat.mul_le_mul_right _ (by rw [Nat.mul_comm (V R)]; exact Nat.mul_le_mul_right _ hle)
  have hr0 : sgn q = true → r = 0 := fun h => by
    have := hr
    rw [k1 h, V_zero, Nat.zero_mul] at this
    exact near_same hpw hpw this (near_zero hpw) rfl
  rw [show min r 9218868437227405312 = r by omega] at hp
  have hprg : rg p = r := by rw [hp]; exact rg_mkW (by omega)
  have hpsg : sgn p = sgn q := by rw [hp]; exact sgn_mkW (by omega)
  have hplt : p < 18446744073709551616 := by rw [hp]; exact mkW_lt (by omega)
  have hkey : keyW p = (r : Int) := by
    unfold keyW
    rw [hpsg, hprg]
    cases hs : sgn q
    · rfl
    · rw [hr0 hs]; rfl
  have hVr : V r ≤ n * pw 1074 := by rw [← hV]; exact V_le hrR
  have htn : V r / pw 1074 ≤ n := by
    have := Nat.div_le_div_right (c := pw 1074) hVr
    rwa [Nat.mul_div_cancel _ hpw] at this
  obtain ⟨ti, hti⟩ : ∃ ti, V r / pw 1074 = ti := ⟨_, rfl⟩
  have hfi : (ti : Int).natAbs < 9007199254740992 := by omega
  obtain ⟨f, hf, hfr⟩ := sub_fin hplt (fi_lt hfi) (by omega) (fi_rg hfi)
  refine ⟨p, ti, f, hm, int_of hplt (by omega) (fun h => by rw [hprg]; exact hr0 (by rw [← hpsg]; exact h)) (by rw [hprg]; exact hti) (by omega), by omega, hf, hplt, roundW_lt hfr, ?_⟩
  intro i hi
  have hii : (i : Int).natAbs < 9007199254740992 := by omega
  obtain ⟨Ri, eRi, hVi, hRi, hki⟩ := key_fi (i := i) (by omega)
  have oi : okW (FI (i : Int)) = true := by unfold okW; exact decide_eq_true (by have := fi_rg hii; omega)
  have op : okW p = true := by unfold okW; exact decide_eq_true (by omega)
  rw [ord_lt (fi_lt hii) hplt, ord_eq (fi_lt hii) hplt, oi, op, hki, hkey]
  simp only [Bool.true_and]
  have hcmp : Ri ≤ r ↔ i ≤ ti := by
    rw [← hti, Nat.le_div_iff_mul_le hpw, ← hVi]
    constructor
    · intro h; exact V_le h
    · intro h
      refine Nat.le_of_not_lt fun hn => ?_
      have := V_lt hn
      omega
  by_cases hc : i ≤ ti
  · left
    refine ⟨hc, ?_⟩
    have := hcmp.2 hc
    by_cases hlt : (Ri : Int) < (r : Int)
    · exact Or.inl (decide_eq_true hlt)
    · exact Or.inr ⟨decide_eq_false hlt, decide_eq_true (by omega)⟩
  · right
    have : ¬ Ri ≤ r := fun h => hc (hcmp.1 h)
    exact ⟨by omega, decide_eq_false (by omega), decide_eq_false (by omega)⟩
end Go.Proofs.Ytecbbdbeihiioaa
