/- The contract of spigotref03.DocTicks. -/
import Derived.Test.YtbpldplbkmabmaaDoorRlL
import Derived.Test.YtbpldplbkmabmaaDoorRlF
namespace Go.Proofs.YtbpldplbkmabmaaDoor
open Go.RowKit

theorem tick_big {r hz how : Nat} (h0 : 0 < r) (hz1 : 1 ≤ hz) (he : 1144 < numE r) : ¬ tickN r hz how ≤ 4611686018427387903 := by
  have hv : V r = numM r * 2 ^ numE r := num_val.symm
  obtain ⟨hm, -⟩ := numM_pos h0
  have key : ∀ k n j : Nat, n = k + 71 + j → 2361183241434822606848 * pw k ≤ 2 ^ n := by
    intro k n j h
    have e : (2361183241434822606848 : Nat) = 2 ^ 71 := by decide
    rw [e, h, Nat.pow_add, Nat.pow_add, Nat.mul_comm (2 ^ 71)]
    exact Nat.le_mul_of_pos_right _ (Nat.two_pow_pos j)
  have h1 := key 1074 (numE r) (numE r - 1145) (by omega)
  have h2 : 1 * 2 ^ numE r ≤ numM r * 2 ^ numE r := Nat.mul_le_mul_right _ hm
  have h3 : V r * 1 ≤ V r * hz := Nat.mul_le_mul_left _ hz1
  have h4 : 2361183241434822606848 ≤ V r * hz / pw 1074 := by
    rw [Nat.le_div_iff_mul_le (pw_pos _)]
    omega
  unfold tickN wholeN
  omega

theorem ratio_shift {m hz n k : Nat} (h : k ≤ n) (v : Nat) (hv : v = m * 2 ^ n) : m * hz * 2 ^ (n - k) * pw k = v * hz * 1 := by
  have e : pw k = 2 ^ k := rfl
  rw [hv, e, Nat.mul_one, Nat.mul_assoc (m * hz), ← Nat.pow_add, Nat.sub_add_cancel h, Nat.mul_right_comm]

theorem ratio_shift2 {m hz n k : Nat} (h : n < k) (v : Nat) (hv : v = m * 2 ^ n) : m * hz * pw k = v * hz * (1 * 2 ^ (k - n)) := by
  have e : pw k = 2 ^ n * 2 ^ (k - n) := by unfold pw; rw [← Nat.pow_add, Nat.add_sub_cancel' (Nat.le_of_lt h)]
  rw [hv, e, Nat.one_mul, ← Nat.mul_assoc, Nat.mul_right_comm m hz (2 ^ n)]

theorem mul_small_pw {m z : Nat} (hm : m < 9007199254740992) (hz : z ≤ 1000000000) : m * z < pw 83 := by
  have h1 : m < 2 ^ 53 := by rw [show (2 : Nat) ^ 53 = 9007199254740992 from by decide]; exact hm
  have h2 : z < pw 30 := by
    have e : pw 30 = 1073741824 := by decide
    rw [e]; omega
  exact mul_pw h1 h2 (by decide)

theorem shl_pw {x i j k : Nat} (hx : x < pw i) (hj : i + j ≤ k) : x * 2 ^ j < pw k := by
  have h2 : x * 2 ^ j < pw i * 2 ^ j := Nat.mul_lt_mul_of_pos_right hx (Nat.two_pow_pos _)
  unfold pw at *
  rw [← Nat.pow_add] at h2
  exact Nat.lt_of_lt_of_le h2 (Nat.pow_le_pow_right (by decide) hj)

theorem one_shl_pw {k : Nat} (h : k ≤ 1074) : 1 * 2 ^ k < pw 2000 := by
  rw [Nat.one_mul]; exact pow_lt_pw (by omega)

set_option maxHeartbeats 8000000 in
theorem docticks_any (b : Nat) (hz how : Int) (w : World) (hzb : hz ≤ 9223372036854775807) :
    Calls Tryd.prog 38 #[.float .f64 b, .int .i64 hz, .int .i64 how] w (TkRes w b hz how) := by
  unfold TkRes
  have Kk := Lib.hid (fun v => kind_ref b v)
  have Km := Lib.hid (fun v => minus_ref b v)
  cases hA : argsT hz how with
  | false =>
    obtain ⟨e1, e2⟩ := tk_arg (b := b) hA
    rw [e1, e2]
    have hno := argsT_no hA
    clear e1 e2 hA
    by_cases c1 : hz < 1
    · go_enter Tryd.func38, Tryd.ntmps38
      go_wp2
      go_ret2
      exact ⟨rfl, Below.refl _ _⟩
    · by_cases c2 : 1000000000 < hz
      · go_enter Tryd.func38, Tryd.ntmps38
        go_wp2
        go_ret2
        exact ⟨rfl, Below.refl _ _⟩
      · by_cases c3 : how < 0
        · go_enter Tryd.func38, Tryd.ntmps38
          go_wp2
          go_ret2
          exact ⟨rfl, Below.refl _ _⟩
        · have c4 : 2 < how := by omega
          clear hno
          go_enter Tryd.func38, Tryd.ntmps38
          go_wp2
          go_ret2
          exact ⟨rfl, Below.refl _ _⟩
  | true =>
    obtain ⟨a1, a2, a3, a4⟩ := argsT_yes hA
    by_cases c1 : 9218868437227405312 ≤ rg b
    · obtain ⟨e1, e2⟩ := tk_fin hA c1
      rw [e1, e2]
      have hk := finE_kind (rg b)
      have hk2 : ¬ kindN (rg b) < 3 := by
        unfold kindN
        rw [if_neg (by omega), if_neg (by omega), if_neg (by omega)]
        split <;> omega
      generalize kindN (rg b) = k at *
      generalize finE (rg b) = f at *
      clear e1 e2 hA c1
      rcases hk with ⟨rfl, rfl⟩ | ⟨rfl, rfl⟩ | ⟨h, -⟩
      · go_enter Tryd.func38, Tryd.ntmps38
        go_wp2_with (go_at_call 34; (with_reducible refine (Kk.out _).mono ?_); rintro e w' ⟨rfl, rfl⟩)
        go_ret2
        exact ⟨rfl, Below.refl _ _⟩
      · go_enter Tryd.func38, Tryd.ntmps38
        go_wp2_with (go_at_call 34; (with_reducible refine (Kk.out _).mono ?_); rintro e w' ⟨rfl, rfl⟩)
        go_ret2
        exact ⟨rfl, Below.refl _ _⟩
      · exact absurd h hk2
    · obtain ⟨hk4, hk3⟩ := kind_small (show rg b < 9218868437227405312 by omega)
      by_cases c2 : sgn b = true ∧ 0 < rg b
      · obtain ⟨e1, e2⟩ := tk_neg hA (by omega) c2
        rw [e1, e2]
        have hkp : (0 : Int) < (kindN (rg b) : Int) := by
          have := kind_cases (rg b)
          have := c2.2
          omega
        rw [c2.1] at Km
        generalize kindN (rg b) = k at *
        clear e1 e2 hA c1 c2
        go_enter Tryd.func38, Tryd.ntmps38
        go_wp2_with (first | (go_at_call 34; (with_reducible refine (Kk.out _).mono ?_); rintro e w' ⟨rfl, rfl⟩) | (go_at_call 36; (with_reducible refine (Km.out _).mono ?_); rintro e w' ⟨rfl, rfl⟩))
        go_ret2
        exact ⟨rfl, Below.refl _ _⟩
      · -- finite, not below 0
        have Kn := Lib.hid (fun v => number_ref b v)
        obtain ⟨z, hz'⟩ := Int.eq_ofNat_of_zero_le (show 0 ≤ hz by omega)
        obtain ⟨k, hk'⟩ := Int.eq_ofNat_of_zero_le a3
        subst hz' hk'
        have hSome := Lib.hid (fun h3 => tk_some hA (by omega) c2 h3)
        have hBig := Lib.hid (fun h3 => tk_big hA (by omega) c2 h3)
        simp only [Int.toNat_natCast] at hSome hBig
        have hkk : (0 < kindN (rg b) ∧ sgn b = false) ∨ (kindN (rg b) = 0) := by
          have := kind_cases (rg b)
          by_cases hr : 0 < rg b
          · refine Or.inl ⟨by omega, ?_⟩
            cases hs : sgn b
            · rfl
            · exact absurd ⟨hs, hr⟩ c2
          · exact Or.inr (by omega)
        have hm53 : numM (rg b) < 9007199254740992 := by unfold numM; split <;> omega
        have hnv := @num_val (rg b)
        have hEl : numE (rg b) ≤ 2046 := by unfold numE; omega
        have hm0 : 0 < numM (rg b) → 0 < rg b := by
          intro h
          rcases Nat.eq_zero_or_pos (rg b) with h' | h'
          · rw [h'] at h; exact absurd h (by decide)
          · exact h'
        have hM0E : numM (rg b) = 0 → numE (rg b) = 0 := by
          intro h
          rcases Nat.eq_zero_or_pos (rg b) with h' | h'
          · rw [h']; decide
          · have := (numM_pos h').1; omega
        have Htb := Lib.hid (fun (h : 0 < rg b) (h' : 1144 < numE (rg b)) => tick_big (how := k) h (show 1 ≤ z by omega) h')
        have Htn : Hid (tickN (rg b) z k = wholeN (V (rg b) * z) (pw 1074) k) := Lib.hid rfl
        generalize tkV b (z : Int) (k : Int) = V0 at *
        generalize tkE b (z : Int) (k : Int) = E0 at *
        generalize tickN (rg b) z k = n at *
        generalize numM (rg b) = M at *
        generalize numE (rg b) = E at *
        generalize kindN (rg b) = kd at *
        generalize sgn b = sg at *
        generalize V (rg b) = vv at *
        have hk2 : k ≤ 2 := by omega
        have hz2 : z ≤ 1000000000 := by omega
        have hzu : z < 18446744073709551616 := by omega
        have hMu : M < 18446744073709551616 := by omega
        have HM0 := Lib.hid hm0
        have Hnv := Lib.hid hnv.symm
        clear hm0 hnv hA c1 c2
        have Kwm := Lib.hid (fun v => word_any M v hMu)
        have Kwz := Lib.hid (fun v => word_any z v hzu)
        have Kt := Lib.hid (fun u u' v (h : IsN v u M) (h' : IsN v u' z) => rtimes_pw u u' M z v h h' (lt_pw (lt_big M 64 hMu (by decide)) (by decide)) (lt_pw (lt_big z 64 hzu (by decide)) (by decide)))
        have tail : ∀ (kd : Nat) (sg : Bool), ((0 < kd ∧ sg = false) ∨ kd = 0) → ((kd : Int) == 4) = false → ((kd : Int) == 3) = false →
            (∀ v, Calls Tryd.prog 34 #[.float .f64 b] v fun e w' => e = .returned (.int .i64 kd) ∧ v = w') →
            (∀ v, Calls Tryd.prog 36 #[.float .f64 b] v fun e w' => e = .returned (.bool sg) ∧ v = w') →
            Calls Tryd.prog 38 #[.float .f64 b, .int .i64 z, .int .i64 k] w (fun e w' => e = .returned (.tuple #[.int .i64 V0, .int .i64 E0]) ∧ Below w.heap.size w w') := by
          clear hkk hk4 hk3 Kk Km
          intro kd sg hkk hk4 hk3 kk km
          have Kk := Lib.hid kk; have Km := Lib.hid km
          clear kk km
          by_cases hbig : 0 < M ∧ 1144 < E
          · obtain ⟨e1, e2⟩ := hBig.out (Htb.out (HM0.out hbig.1) hbig.2)
            subst e1 e2
            have g1 : (0 : Int) < (M : Int) := by omega
            have g2 : (70 : Int) < (E : Int) - 1074 := by omega
            clear hbig hSome hBig
            rcases hkk with ⟨hkp, rfl⟩ | rfl
            · have hkp' : (0 : Int) < (kd : Int) := by omega
              clear hkp
              go_enter Tryd.func38, Tryd.ntmps38
              go_wp2_with (first | (go_at_call 34; (with_reducible refine (Kk.out _).mono ?_); rintro e w' ⟨rfl, rfl⟩) | (go_at_call 36; (with_reducible refine (Km.out _).mono ?_); rintro e w' ⟨rfl, rfl⟩) | (go_at_call 57; (with_reducible refine (Kn.out _).mono ?_); rintro e w' ⟨rfl, rfl⟩))
              go_ret2
              exact ⟨rfl, Below.refl _ _⟩
            · go_enter Tryd.func38, Tryd.ntmps38
              go_wp2_with (first | (go_at_call 34; (with_reducible refine (Kk.out _).mono ?_); rintro e w' ⟨rfl, rfl⟩) | (go_at_call 36; (with_reducible refine (Km.out _).mono ?_); rintro e w' ⟨rfl, rfl⟩) | (go_at_call 57; (with_reducible refine (Kn.out _).mono ?_); rintro e w' ⟨rfl, rfl⟩))
              go_ret2
              exact ⟨rfl, Below.refl _ _⟩
          · have hE4 : E ≤ 1144 := by
              rcases Nat.eq_zero_or_pos M with h | h
              · have := hM0E h; omega
              · omega
            have g2 : ¬ (70 : Int) < (E : Int) - 1074 := by omega
            by_cases hE : 1074 ≤ E
            · obtain ⟨s, hs⟩ : ∃ s : Nat, s = E - 1074 := ⟨_, rfl⟩
              have hes : (E : Int) - 1074 = (s : Int) := by omega
              rw [hes] at Kn g2
              have Ks := Lib.hid (fun u v (h : IsN v u (M * z)) => shift_up u (M * z) s v h (le_pw (mul_small_pw hm53 hz2) (by decide)) (by omega))
              have hr : wholeN (M * z * 2 ^ s) 1 k = n := by
                rw [Htn.out]
                refine whole_ratio k (by decide) (pw_pos _) ?_
                rw [hs]
                exact ratio_shift hE vv Hnv.out
              have Kw := Lib.hid (fun u u' v (h : IsN v u (M * z * 2 ^ s)) (h' : IsN v u' 1) => rwhole_any u u' _ 1 k v h h' (by decide) (le_pw (shl_pw (mul_small_pw hm53 hz2) (show 83 + s ≤ 200 by omega)) (by decide)) (one_lt_pw (by decide)) hk2)
              rw [hr] at Kw
              have hsb : s ≤ 70 := by omega
              generalize M * z * 2 ^ s = A at *
              generalize M * z = mz at *
              clear hr hes hE hE4 hbig hM0E hEl hs
              have Kti := Lib.hid (fun u v (h : IsN v u n) => tick_ref u n v h)
              have HSome := hSome; have HBig := hBig
              clear hSome hBig Hnv Htn Htb HM0
              by_cases hM : (0 : Int) < (M : Int)
              all_goals
                rcases hkk with ⟨hkp, rfl⟩ | rfl
                all_goals
                  have hkp' : 0 ≤ (0 : Int) := by decide
                  first | (have hkq : (0 : Int) < (kd : Int) := by omega) | skip
                  go_enter Tryd.func38, Tryd.ntmps38
                  go_wp2_with (first | (go_at_call 34; (with_reducible refine (Kk.out _).mono ?_); rintro e w' ⟨rfl, rfl⟩) | (go_at_call 36; (with_reducible refine (Km.out _).mono ?_); rintro e w' ⟨rfl, rfl⟩) | (go_at_call 57; (with_reducible refine (Kn.out _).mono ?_); rintro e w' ⟨rfl, rfl⟩))
                  with_reducible refine (Kwm.out _).mono ?_
                  rintro e w1 ⟨v1, rfl, hv1, hb1⟩
                  have Hv1 := Lib.hid hv1; have Hb1 := Lib.hid hb1
                  clear hv1 hb1
                  go_wp2_with fail
                  with_reducible refine (Kwz.out _).mono ?_
                  rintro e w2 ⟨v2, rfl, hv2, hb2⟩
                  have Hv2 := Lib.hid hv2; have Hv1' := Lib.hid (Hv1.out.later hb2); have Hb2 := Lib.hid (Hb1.out.trans (hb2.mono Hb1.out.size))
                  clear hv2 hb2 Hv1 Hb1
                  go_wp2_with fail
                  with_reducible refine (Kt.out _ _ _ Hv1'.out Hv2.out).mono ?_
                  rintro e w3 ⟨v3, rfl, hv3, hb3⟩
                  have Hv3 := Lib.hid hv3; have Hb3 := Lib.hid (Hb2.out.trans (hb3.mono Hb2.out.size))
                  clear hv3 hb3 Hv2 Hv1' Hb2
                  go_wp2_with fail
                  with_reducible refine (Ks.out _ _ Hv3.out).mono ?_
                  rintro e w4 ⟨v4, v5, rfl, hv4, hv5, hb4⟩
                  have Hv4 := Lib.hid hv4; have Hv5 := Lib.hid hv5; have Hb4 := Lib.hid (Hb3.out.trans (hb4.mono Hb3.out.size))
                  clear hv4 hv5 hb4 Hv3 Hb3
                  go_wp2_with fail
                  with_reducible refine (Kw.out _ _ _ Hv4.out Hv5.out).mono ?_
                  rintro e w5 ⟨v6, rfl, hv6, hb5⟩
                  have Hv6 := Lib.hid hv6; have Hb5 := Lib.hid (Hb4.out.trans (hb5.mono Hb4.out.size))
                  clear hv6 hb5 Hv4 Hv5 Hb4
                  go_wp2_with fail
                  with_reducible refine (Kti.out _ _ Hv6.out).mono ?_
                  rintro e w6 ⟨x, rfl, hx, hb6⟩
                  have Hb6 := Lib.hid (Hb5.out.trans (hb6.mono Hb5.out.size))
                  clear hb6 Hv6 Hb5
                  by_cases hm : n ≤ 4611686018427387903
                  · obtain ⟨e1, e2⟩ := HSome.out hm
                    have hxn := hx hm
                    subst hxn e1 e2
                    rw [decide_eq_true hm]
                    clear hx hm HSome HBig
                    go_wp2
                    go_ret2
                    exact ⟨rfl, Hb6.out⟩
                  · obtain ⟨e1, e2⟩ := HBig.out hm
                    subst e1 e2
                    rw [decide_eq_false hm]
                    clear hx hm HSome HBig
                    go_wp2
                    go_ret2
                    exact ⟨rfl, Hb6.out⟩
            · obtain ⟨s, hs⟩ : ∃ s : Nat, s = 1074 - E := ⟨_, rfl⟩
              have hes : (E : Int) - 1074 = -(s : Int) := by omega
              rw [hes] at Kn g2
              have hs0 : 0 < s := by omega
              have Ks := Lib.hid (fun u v (h : IsN v u (M * z)) => shift_down u (M * z) s v h hs0 (by omega))
              have hr : wholeN (M * z) (1 * 2 ^ s) k = n := by
                rw [Htn.out]
                refine whole_ratio k (Nat.mul_pos (by decide) (Nat.two_pow_pos _)) (pw_pos _) ?_
                rw [hs]
                exact ratio_shift2 (by omega) vv Hnv.out
              have Kw := Lib.hid (fun u u' v (h : IsN v u (M * z)) (h' : IsN v u' (1 * 2 ^ s)) => rwhole_any u u' _ _ k v h h' (Nat.mul_pos (by decide) (Nat.two_pow_pos _)) (le_pw (mul_small_pw hm53 hz2) (by decide)) (le_pw (one_shl_pw (by omega)) (by decide)) hk2)
              rw [hr] at Kw
              have hsb : s ≤ 1074 := by omega
              generalize 1 * 2 ^ s = A at *
              generalize M * z = mz at *
              clear hr hes hE hE4 hbig hM0E hEl hs
              have Kti := Lib.hid (fun u v (h : IsN v u n) => tick_ref u n v h)
              have HSome := hSome; have HBig := hBig
              clear hSome hBig Hnv Htn Htb HM0
              by_cases hM : (0 : Int) < (M : Int)
              all_goals
                rcases hkk with ⟨hkp, rfl⟩ | rfl
                all_goals
                  have hkp' : 0 ≤ (0 : Int) := by decide
                  first | (have hkq : (0 : Int) < (kd : Int) := by omega) | skip
                  go_enter Tryd.func38, Tryd.ntmps38
                  go_wp2_with (first | (go_at_call 34; (with_reducible refine (Kk.out _).mono ?_); rintro e w' ⟨rfl, rfl⟩) | (go_at_call 36; (with_reducible refine (Km.out _).mono ?_); rintro e w' ⟨rfl, rfl⟩) | (go_at_call 57; (with_reducible refine (Kn.out _).mono ?_); rintro e w' ⟨rfl, rfl⟩))
                  with_reducible refine (Kwm.out _).mono ?_
                  rintro e w1 ⟨v1, rfl, hv1, hb1⟩
                  have Hv1 := Lib.hid hv1; have Hb1 := Lib.hid hb1
                  clear hv1 hb1
                  go_wp2_with fail
                  with_reducible refine (Kwz.out _).mono ?_
                  rintro e w2 ⟨v2, rfl, hv2, hb2⟩
                  have Hv2 := Lib.hid hv2; have Hv1' := Lib.hid (Hv1.out.later hb2); have Hb2 := Lib.hid (Hb1.out.trans (hb2.mono Hb1.out.size))
                  clear hv2 hb2 Hv1 Hb1
                  go_wp2_with fail
                  with_reducible refine (Kt.out _ _ _ Hv1'.out Hv2.out).mono ?_
                  rintro e w3 ⟨v3, rfl, hv3, hb3⟩
                  have Hv3 := Lib.hid hv3; have Hb3 := Lib.hid (Hb2.out.trans (hb3.mono Hb2.out.size))
                  clear hv3 hb3 Hv2 Hv1' Hb2
                  go_wp2_with fail
                  with_reducible refine (Ks.out _ _ Hv3.out).mono ?_
                  rintro e w4 ⟨v4, v5, rfl, hv4, hv5, hb4⟩
                  have Hv4 := Lib.hid hv4; have Hv5 := Lib.hid hv5; have Hb4 := Lib.hid (Hb3.out.trans (hb4.mono Hb3.out.size))
                  clear hv4 hv5 hb4 Hv3 Hb3
                  go_wp2_with fail
                  with_reducible refine (Kw.out _ _ _ Hv4.out Hv5.out).mono ?_
                  rintro e w5 ⟨v6, rfl, hv6, hb5⟩
                  have Hv6 := Lib.hid hv6; have Hb5 := Lib.hid (Hb4.out.trans (hb5.mono Hb4.out.size))
                  clear hv6 hb5 Hv4 Hv5 Hb4
                  go_wp2_with fail
                  with_reducible refine (Kti.out _ _ Hv6.out).mono ?_
                  rintro e w6 ⟨x, rfl, hx, hb6⟩
                  have Hb6 := Lib.hid (Hb5.out.trans (hb6.mono Hb5.out.size))
                  clear hb6 Hv6 Hb5
                  by_cases hm : n ≤ 4611686018427387903
                  · obtain ⟨e1, e2⟩ := HSome.out hm
                    have hxn := hx hm
                    subst hxn e1 e2
                    rw [decide_eq_true hm]
                    clear hx hm HSome HBig
                    go_wp2
                    go_ret2
                    exact ⟨rfl, Hb6.out⟩
                  · obtain ⟨e1, e2⟩ := HBig.out hm
                    subst e1 e2
                    rw [decide_eq_false hm]
                    clear hx hm HSome HBig
                    go_wp2
                    go_ret2
                    exact ⟨rfl, Hb6.out⟩
        exact tail kd sg hkk hk4 hk3 Kk.out Km.out
end Go.Proofs.YtbpldplbkmabmaaDoor
