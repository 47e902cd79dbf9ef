/- RateNever, joined. -/
import Derived.Test.YtbpldplbkmabmaaDoorRtP
import Derived.Test.YtbpldplbkmabmaaDoorRtO
namespace Go.Proofs.YtbpldplbkmabmaaDoor
open Go.RowKit
set_option linter.unusedVariables false

/-- What Real answers of a limit without a burst. -/
theorem real_is {T : Nat} {hz : Int} (hT : 1 ≤ T) (hT2 : T ≤ 4611686018427387903) (h1 : 1 ≤ hz) (h2 : hz ≤ 1000000000) :
    ∃ x, x < 9218868437227405312 ∧ IsNear (hz.toNat * pw 1074) T x ∧ ∀ v, Calls Tryd.prog 24 #[limV (T : Int) 0, .int .i64 hz] v (FE v x 0) := by
  have hl : limB (T : Int) 0 = true := by
    unfold limB
    rw [tickB_mk (by omega) (by omega), tickB_mk (by omega) (by omega), decide_eq_true (by omega)]
    rfl
  obtain ⟨x, f, hr⟩ := ratw_exists hz (T : Int) (by omega) (by omega) (by omega) (by omega)
  have hf : f = 0 ∧ ∃ r, RatNat hz.natAbs (T : Int).natAbs r ∧ x = mkW (decide (hz < 0) != decide ((T : Int) < 0)) r := by
    rcases hr with ⟨h, -⟩ | ⟨-, h, -⟩ | ⟨-, -, h, h'⟩
    · omega
    · omega
    · exact ⟨h, h'⟩
  obtain ⟨rfl, r, hn, hx⟩ := hf
  rw [decide_eq_false (by omega), decide_eq_false (by omega)] at hx
  have hxr : x = r := hx
  subst hxr
  have e1 : hz.natAbs = hz.toNat := by omega
  rw [e1, Int.natAbs_natCast] at hn
  exact ⟨x, hn.2.2, hn.1, fun v => real_yes (T : Int) 0 hz x 0 v hl h1 h2 (fun u => ratio_w hr (by omega) (by omega) (by omega) (by omega) u)⟩

theorem pw_add {a b c : Nat} (h : c = a + b) : pw c = pw a * pw b := by subst h; unfold pw; rw [← Nat.pow_add]

theorem rtC_mk {p : Nat} {hz : Int} (h1 : 1 ≤ hz) (h2 : hz ≤ 1000000000) (h3 : 0 < p) (h4 : p < 9218868437227405312) : rtC p 0 hz = 0 := by
  have r1 := rg_pos (show p < 9223372036854775808 by omega)
  have s1 := sgn_pos (show p < 9223372036854775808 by omega)
  have r0 : rg 0 = 0 := by decide
  unfold rtC
  rw [r1, s1, r0, if_neg (by omega), if_neg (by omega), if_neg]
  intro h
  rcases h with h | h | h | h | h
  · omega
  · cases h
  · omega
  · omega
  · omega

theorem never_walk (p : Nat) (hz : Int) (hp : p < 18446744073709551616) (w : World) (hT : Tab w) :
    Calls Tryd.prog 7 #[.int .u64 p, .int .i64 hz] w fun e w' => e = .returned (.bool true) ∧ Below w.heap.size w w' := by
  have k0 := of_cases (p := p) (b := 0) (hz := hz) hp (by decide) rfl rfl rfl (rtS_zero (show rg 0 = 0 by decide))
  by_cases hC : rtC p 0 hz = 0
  · obtain ⟨z1, z2, p0, p1, p2, -, -⟩ := rtC_zero hC
    have hpl : p < 9218868437227405312 := by
      have h := mkW_self hp
      rw [p2] at h
      have h' : rg p = p := h
      omega
    have r1 := rg_pos (show p < 9223372036854775808 by omega)
    obtain ⟨tT, tU, ta, tb⟩ := rtT_facts p0 z1
    rw [r1] at p0 ta tb
    by_cases hU : rtU p hz ≤ 4611686018427387903
    · have k0 := of_good' (x := 0) rfl hC hU (by decide) k0
      rw [tT] at k0
      clear tT hC p1 p2 r1
      generalize rtU p hz = T at *
      obtain ⟨x, hxl, hxn, kx⟩ := real_is tU hU z1 z2
      obtain ⟨o1, o2, -⟩ := ord_pos hxl hpl
      obtain ⟨b1, -, b2⟩ := ord_pos hpl (show (9110782046170513408 : Nat) < 9218868437227405312 by decide)
      have hxp : x ≤ p := (never_rates tU hxn).1 ta
      rw [decide_eq_false (by omega)] at o1
      by_cases hbig : p < 9110782046170513408
      · rw [decide_eq_false (by omega)] at b1
        rw [decide_eq_false (by omega)] at b2
        obtain ⟨q, hq, q0, ql, qV⟩ := twice_float p0 hbig
        have hqr := rg_pos (show q < 9223372036854775808 by omega)
        have k3 := of_cases (p := q) (b := 0) (hz := hz) (by omega) (by decide) (rtC_mk z1 z2 q0 ql) rfl rfl (rtS_zero (show rg 0 = 0 by decide))
        obtain ⟨mT, mU, ma, mb⟩ := rtT_facts (p := q) (hz := hz) (by rw [hqr]; exact q0) z1
        rw [hqr, qV] at ma mb
        rw [mT] at k3
        clear mT hqr qV
        generalize rtU q hz = m at *
        obtain ⟨t1, t2⟩ := never_twice ta tb tU ma mb mU
        have k3 := of_good' (x := 0) rfl rfl (show m ≤ 4611686018427387903 by omega) (by decide) k3
        clear ma mb
        by_cases hT1 : T = 1
        · subst hT1
          exact never_one p q x hz m w hT k0 kx k3 (by omega) (by omega) b1 b2 hq
        · obtain ⟨y, hyl, hyn, ky⟩ := real_is (T := T - 1) (by omega) (by omega) z1 z2
          obtain ⟨-, o3, -⟩ := ord_pos hyl hpl
          have hpy : p ≤ y := (never_rates (by omega) hyn).2 tb
          rw [decide_eq_false (by omega)] at o3
          rw [show ((T - 1 : Nat) : Int) = (T : Int) - 1 by omega] at ky
          exact never_more p q x y hz T m w hT k0 kx ky k3 (by omega) (by omega) (by omega) (by omega) o1 o3 b1 b2 hq
      · have hT1 : T = 1 := by
          refine Decidable.byContradiction fun h => ?_
          have hV : V 9110782046170513408 ≤ V p := V_le (by omega)
          have hv : V 9110782046170513408 = pw 2074 := by
            have h := V_bin 2022
            rw [show 2022 * 4503599627370496 + 4503599627370496 = 9110782046170513408 from by decide, show 52 + 2022 = 2074 from by decide] at h
            exact h
          have h30 : pw 2074 = pw 1000 * pw 1074 := pw_add (by decide)
          have h31 : 1000000000 < pw 1000 := lt_pw (m := 30) (by decide) (by decide)
          have h32 : 1 * V p ≤ (T - 1) * V p := Nat.mul_le_mul_right _ (by omega)
          have h33 : hz.toNat * pw 1074 ≤ pw 1000 * pw 1074 := Nat.mul_le_mul_right _ (by omega)
          rw [hv, h30] at hV
          rw [Nat.one_mul] at h32
          exact Nat.lt_irrefl _ (Nat.lt_of_lt_of_le (Nat.lt_of_lt_of_le tb h33) (Nat.le_trans hV h32))
        subst hT1
        by_cases he : p = 9110782046170513408
        · rw [decide_eq_false (by omega)] at b1
          rw [decide_eq_true he] at b2
          exact never_big_eq p x hz w hT k0 kx b1 b2
        · rw [decide_eq_true (by omega)] at b1
          rw [decide_eq_false he] at b2
          exact never_big_gt p x hz w hT k0 kx b1 b2
    · exact never_bad p hz 5 w hT (of_wide' hC (fun h => hU h.1) k0) (by decide) (by decide)
  · exact never_bad p hz _ w hT (of_bad' hC k0) (by simp; omega) (by simp; omega)
end Go.Proofs.YtbpldplbkmabmaaDoor
