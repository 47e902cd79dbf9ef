/- The contract of spigotref03.Nearest. PRINTED by gen_near.py. -/
import Derived.Test.YtbpldplbkmabmaaDoorRlM
namespace Go.Proofs.YtbpldplbkmabmaaDoor
open Go.RowKit

set_option maxHeartbeats 4000000 in
set_option maxRecDepth 100000 in
theorem nearest_up (va vb : Value) (na nb S e0 : Nat) (w : World) (ha : IsN w va na) (hb : IsN w vb nb) (h0a : 0 < na) (h0b : 0 < nb) (ha2 : na ≤ 9223372036854775808) (hb2 : nb ≤ 9223372036854775808)
    (hS : bitLen na + S = 54 + bitLen nb) (hS0 : 0 < S) (hS1 : e0 + S = 1074) :
    Calls Tryd.prog 93 #[va, vb] w (NearRes w na nb) := by
  have hbx := bit_le ha2
  have hby := bit_le hb2
  obtain ⟨-, -, hpx⟩ := bit_range h0a
  obtain ⟨-, -, hpy⟩ := bit_range h0b
  have he0 : 900 ≤ e0 := by omega
  have hq := q54_up h0a h0b hS
  have hrel := rel_up h0b hS1 he0 hq
  have hNl : na * 2 ^ S < pw 80000 := le_pw (shift_pw ha2 (by omega)) (by decide)
  have hDl : nb < pw 80000 := le_pw (word_pw hb2) (by decide)
  have h0D : 0 < nb := by omega
  have Ksa := Lib.hid (fun u v (h : IsN v u na) => rsize_pw u na v h (le_pw (word_pw ha2) (by decide)))
  have Ksb := Lib.hid (fun u v (h : IsN v u nb) => rsize_pw u nb v h (le_pw (word_pw hb2) (by decide)))
  have Kl := Lib.hid (fun u v (h : IsN v u na) => rleft_pw u na S v h (le_pw (word_pw ha2) (by decide)) (by omega))
  have Kq := Lib.hid (fun u u' v (h : IsN v u (na * 2 ^ S)) (h' : IsN v u' (nb)) => rquo_pw u u' _ _ v h h' h0D hNl hDl)
  have Kf := Lib.hid (fun u v (h : IsN v u (na * 2 ^ S / (nb))) => fits_any u _ v h)
  have hfit : na * 2 ^ S / (nb) < 18446744073709551616 := by omega
  have HA := Lib.hid ha; have HB := Lib.hid hb
  have Hend := Lib.hid (fun e y d r (h : NearRel (na * pw 1074) nb (na * 2 ^ S) e y d r) (hy : y < 18014398509481984) => near_end h h0b hy)
  have Hround := Lib.hid (fun e y d r (h : NearRel (na * pw 1074) nb (na * 2 ^ S) e y d r) => near_round h)
  have hn : (bitLen na : Int) - (bitLen nb : Int) - 54 = (e0 : Int) - 1074 := by omega
  have hns : -((e0 : Int) - 1074) = (S : Int) := by omega
  obtain ⟨la, ⟨aa, ca, rfl, hla, hca, hra⟩, hnl, hval⟩ := ha
  have hlenA : 0 < la.length := by
    rcases Nat.eq_zero_or_pos la.length with h | h
    · rw [List.length_eq_zero_iff.1 h] at hval; rw [← hval] at h0a; simp [valL] at h0a
    · exact h
  have hlA : la.length ≤ 9223372036854775807 := by unfold maxLen at hca; omega
  clear hla hca hra hnl hval hb
  generalize la.length = LA at *
  have Hrel := Lib.hid hrel
  generalize bitLen na = px at *
  generalize bitLen nb = py at *
  generalize hQ : na * 2 ^ S / (nb) = Q at *
  generalize hR : na * 2 ^ S % (nb) = R at *
  have HP := Lib.hid (show na * pw 1074 = na * pw 1074 from rfl)
  have hSb : S ≤ 130 := by omega
  have he1 : e0 ≤ 1099 := by omega
  have Hez := Lib.hid (show e0 + 1 ≤ 1100 by omega)
  clear hrel hq hNl hDl h0D h0a h0b ha2 hb2 hQ hR hpx hpy HP hS hS1
  go_enter Tryd.func93, Tryd.ntmps93
  go_wp2_with fail
  with_reducible refine (Ksa.out _ _ HA.out).mono ?_
  rintro e w1 ⟨rfl, n1, rfl⟩
  go_wp2_with fail
  with_reducible refine (Ksb.out _ _ (HB.out.later (below_drewN (Below.refl _ _) n1))).mono ?_
  rintro e w1 ⟨rfl, n2, rfl⟩
  have HA2 := Lib.hid ((HA.out.later (below_drewN (Below.refl _ _) n1)).later (below_drewN (Below.refl _ _) n2))
  have HB2 := Lib.hid ((HB.out.later (below_drewN (Below.refl _ _) n1)).later (below_drewN (Below.refl _ _) n2))
  have Hb2 := Lib.hid (below_drewN (below_drewN (Below.refl w.heap.size w) n1) n2)
  have hsz2 := Hb2.out.size
  generalize (w.drewN n1).drewN n2 = W2 at *
  clear HA HB
  go_wp2_with fail
  with_reducible refine (Kl.out _ _ HA2.out).mono ?_
  rintro e w3 ⟨v3, rfl, hv3, hb3⟩
  have Hv3 := Lib.hid hv3; have Hoth := Lib.hid (HB2.out.later hb3); have Hb3 := Lib.hid (Hb2.out.trans (hb3.mono Hb2.out.size))
  clear hv3 hb3 HA2 HB2 Hb2
  go_wp2_with fail
  with_reducible refine (Kq.out _ _ _ Hv3.out Hoth.out).mono ?_
  rintro e w4 ⟨v4, v5, rfl, hv4, hv5, hb4⟩
  have Hv4 := Lib.hid hv4; have Hb4 := Lib.hid (Hb3.out.trans (hb4.mono Hb3.out.size))
  have hv5' := hv5
  obtain ⟨lr, ⟨ar, cr, rfl, hlr, hcr, -⟩, -, -⟩ := hv5
  have hlenR := isN_len hv5'
  have hlR : lr.length ≤ 9223372036854775807 := by unfold maxLen at hcr; omega
  clear hv4 hb4 hv5' hlr hcr Hv3 Hoth Hb3
  generalize lr.length = LR at *
  go_wp2_with fail
  with_reducible refine (Kf.out _ _ Hv4.out).mono ?_
  rintro e w5 ⟨x, rfl, hx, -, n5, rfl⟩
  obtain rfl := hx hfit
  rw [decide_eq_true hfit]
  have Hb5 := Lib.hid (below_drewN Hb4.out n5)
  generalize w4.drewN n5 = W5 at *
  clear hx Hv4 Hb4 Ksa Ksb Kl Kq Kf
  have Hmore : Hid (decide (0 < LR) = decide (0 < R)) := Lib.hid (by rw [← hlenR]; simp)
  clear hlenR
  go_wp2
  go_loopw [5, 8, 10, 11] (fun n m more _ wr => ∃ e y d r : Nat, n = .int .i64 ((e : Int) - 1074) ∧ m = .int .u64 y ∧ more = .bool (decide (0 < r)) ∧ NearRel (na * pw 1074) nb (na * 2 ^ S) e y d r ∧ e + y / 18014398509481984 ≤ 1100 ∧ wr = W5) (fun _ m _ _ _ => (intOf m).toNat)
  case atStart => exact ⟨e0, x, nb, R, rfl, rfl, by rw [Hmore.out], Hrel.out, by have h1 := Hrel.out.2.2.2.2.2.1; have h2 := Hez.out; omega, rfl⟩
  case round =>
    obtain ⟨e, y, d, r, rfl, rfl, rfl, hrel, hey, rfl⟩ := hrel
    clear Hmore Hrel he1 Hez hfit
    have hy1 := hrel.2.2.2.2.1
    have hy2 := hrel.2.2.2.2.2.1
    have he2 := hrel.2.2.2.2.2.2.1
    have hrel' := Lib.hid hrel
    have Hfin := Lib.hid (fun h => Hend.out e y d r hrel h)
    have Hrnd := Lib.hid (fun h h' => Hround.out e y d r hrel h h')
    have hb1 : decide (9007199254740992 ≤ (y : Int)) = true := by simp; omega
    clear hrel
    obtain ⟨m, hm⟩ : ∃ m : Nat, m = y / 2 := ⟨_, rfl⟩
    have hmi : (y : Int) / 2 = (m : Int) := by omega
    by_cases hbr : y < 18014398509481984
    · have hmb : m < 9007199254740992 := by omega
      have hmb' : (m : Int) < 9007199254740992 := by omega
      obtain ⟨e1, he1⟩ : ∃ e1 : Nat, e1 = e + 1 := ⟨_, rfl⟩
      have hei : (e : Int) - 1074 + 1 + 1074 = (e1 : Int) := by omega
      have he1b : e1 ≤ 1101 := by omega
      have hf0 := ext_from_eq ((e1 : Int) * 4503599627370496 + (m : Int)) (e1 * 4503599627370496 + m) (by omega) wr
      have hf1 := ext_from_eq ((e1 : Int) * 4503599627370496 + ((m : Int) + 1)) (e1 * 4503599627370496 + (m + 1)) (by omega) wr
      have Hf := Lib.hid (Hfin.out hbr)
      have hlast : lastOff y r = if y % 2 = 1 ∧ (0 < r ∨ m % 2 = 1) then m + 1 else m := by unfold lastOff; rw [← hm]
      rw [← he1] at Hf
      have He := Lib.hid he1
      by_cases hbit : y % 2 = 1
      · have hbi : (y : Int) % 2 = 1 := by omega
        by_cases hr : 0 < r
        · have hd : decide (0 < r) = true := decide_eq_true hr
          have Hl : Hid (lastOff y r = m + 1) := Lib.hid (by rw [hlast, if_pos ⟨hbit, Or.inl hr⟩])
          clear he1 hlast hr hbit hm hbr hey hmb
          go_wp2
          go_ret
          exact ⟨_, rfl, by rw [← Hl.out]; exact Hf.out, Hb5.out⟩
        · have hd : decide (0 < r) = false := decide_eq_false hr
          by_cases hodd : m % 2 = 1
          · have hoi : ((m : Int) % 2 == 1) = true := by simp; omega
            have Hl : Hid (lastOff y r = m + 1) := Lib.hid (by rw [hlast, if_pos ⟨hbit, Or.inr hodd⟩])
            clear he1 hlast hr hbit hm hbr hey hodd hmb
            go_wp2
            go_ret
            exact ⟨_, rfl, by rw [← Hl.out]; exact Hf.out, Hb5.out⟩
          · have hoi : ((m : Int) % 2 == 1) = false := by simp; omega
            have Hl : Hid (lastOff y r = m) := Lib.hid (by rw [hlast, if_neg (by omega)])
            clear he1 hlast hr hbit hm hbr hey hodd hmb
            go_wp2
            go_ret
            exact ⟨_, rfl, by rw [← Hl.out]; exact Hf.out, Hb5.out⟩
      · have hbi : (y : Int) % 2 = 0 := by omega
        have Hl : Hid (lastOff y r = m) := Lib.hid (by rw [hlast, if_neg (by omega)])
        clear he1 hlast hbit hm hbr hey hmb
        go_wp2
        go_ret
        exact ⟨_, rfl, by rw [← Hl.out]; exact Hf.out, Hb5.out⟩
    · have hmb' : ¬ (m : Int) < 9007199254740992 := by omega
      obtain ⟨g1, g2⟩ := Hrnd.out (by omega) (by omega)
      rw [← hm] at g1
      have G1 := Lib.hid g1
      have Hey : Hid (e + 1 + m / 18014398509481984 ≤ 1100) := Lib.hid (by omega)
      have hmy : m < y := by omega
      have he3 : e ≤ 1100 := by omega
      by_cases hbit : y % 2 = 1
      · have hbi : (y : Int) % 2 = 1 := by omega
        by_cases hr : 0 < r
        · have hd : decide (0 < r) = true := decide_eq_true hr
          have Hd : Hid (decide (0 < y % 2 * d + r) = true) := Lib.hid (by rw [g2, hd]; rfl)
          clear g1 g2 hr hbit hm hbr hey
          go_wp2
          go_roundw
          case rel => exact ⟨e + 1, m, 2 * d, y % 2 * d + r, by go_num, rfl, by rw [Hd.out], G1.out, Hey.out, trivial⟩
          case measure => simp [intOf]; omega
        · have hd : decide (0 < r) = false := decide_eq_false hr
          have Hd : Hid (decide (0 < y % 2 * d + r) = true) := Lib.hid (by rw [g2, hbit]; simp)
          clear g1 g2 hr hbit hm hbr hey
          go_wp2
          go_roundw
          case rel => exact ⟨e + 1, m, 2 * d, y % 2 * d + r, by go_num, rfl, by rw [Hd.out], G1.out, Hey.out, trivial⟩
          case measure => simp [intOf]; omega
      · have hbi : (y : Int) % 2 = 0 := by omega
        by_cases hr : 0 < r
        · have hd : decide (0 < r) = true := decide_eq_true hr
          have Hd : Hid (decide (0 < y % 2 * d + r) = true) := Lib.hid (by rw [g2, hd]; rfl)
          clear g1 g2 hr hbit hm hbr hey
          go_wp2
          go_roundw
          case rel => exact ⟨e + 1, m, 2 * d, y % 2 * d + r, by go_num, rfl, by rw [Hd.out], G1.out, Hey.out, trivial⟩
          case measure => simp [intOf]; omega
        · have hd : decide (0 < r) = false := decide_eq_false hr
          have Hd : Hid (decide (0 < y % 2 * d + r) = false) := Lib.hid (by rw [g2, hd, show y % 2 = 0 by omega]; rfl)
          clear g1 g2 hr hbit hm hbr hey
          go_wp2
          go_roundw
          case rel => exact ⟨e + 1, m, 2 * d, y % 2 * d + r, by go_num, rfl, by rw [Hd.out], G1.out, Hey.out, trivial⟩
          case measure => simp [intOf]; omega

set_option maxHeartbeats 4000000 in
set_option maxRecDepth 100000 in
theorem nearest_down (va vb : Value) (na nb S e0 : Nat) (w : World) (ha : IsN w va na) (hb : IsN w vb nb) (h0a : 0 < na) (h0b : 0 < nb) (ha2 : na ≤ 9223372036854775808) (hb2 : nb ≤ 9223372036854775808)
    (hS : bitLen na = 54 + bitLen nb + S) (hS1 : e0 = 1074 + S) :
    Calls Tryd.prog 93 #[va, vb] w (NearRes w na nb) := by
  have hbx := bit_le ha2
  have hby := bit_le hb2
  obtain ⟨-, -, hpx⟩ := bit_range h0a
  obtain ⟨-, -, hpy⟩ := bit_range h0b
  have he0 : e0 ≤ 1200 := by omega
  have hq := q54_down h0a h0b hS
  have hrel := rel_down h0b hS1 he0 hq
  have hNl : na < pw 80000 := le_pw (word_pw ha2) (by decide)
  have hDl : nb * 2 ^ S < pw 80000 := le_pw (shift_pw hb2 (by omega)) (by decide)
  have h0D : 0 < nb * 2 ^ S := by exact Nat.mul_pos h0b (Nat.two_pow_pos _)
  have Ksa := Lib.hid (fun u v (h : IsN v u na) => rsize_pw u na v h (le_pw (word_pw ha2) (by decide)))
  have Ksb := Lib.hid (fun u v (h : IsN v u nb) => rsize_pw u nb v h (le_pw (word_pw hb2) (by decide)))
  have Kl := Lib.hid (fun u v (h : IsN v u nb) => rleft_pw u nb S v h (le_pw (word_pw hb2) (by decide)) (by omega))
  have Kq := Lib.hid (fun u u' v (h : IsN v u (na)) (h' : IsN v u' (nb * 2 ^ S)) => rquo_pw u u' _ _ v h h' h0D hNl hDl)
  have Kf := Lib.hid (fun u v (h : IsN v u (na / (nb * 2 ^ S))) => fits_any u _ v h)
  have hfit : na / (nb * 2 ^ S) < 18446744073709551616 := by omega
  have HA := Lib.hid ha; have HB := Lib.hid hb
  have Hend := Lib.hid (fun e y d r (h : NearRel (na * pw 1074) nb (na) e y d r) (hy : y < 18014398509481984) => near_end h h0b hy)
  have Hround := Lib.hid (fun e y d r (h : NearRel (na * pw 1074) nb (na) e y d r) => near_round h)
  have hn : (bitLen na : Int) - (bitLen nb : Int) - 54 = (S : Int) := by omega
  have Hns := Lib.hid (show (S : Int) = (e0 : Int) - 1074 by omega)
  obtain ⟨la, ⟨aa, ca, rfl, hla, hca, hra⟩, hnl, hval⟩ := ha
  have hlenA : 0 < la.length := by
    rcases Nat.eq_zero_or_pos la.length with h | h
    · rw [List.length_eq_zero_iff.1 h] at hval; rw [← hval] at h0a; simp [valL] at h0a
    · exact h
  have hlA : la.length ≤ 9223372036854775807 := by unfold maxLen at hca; omega
  clear hla hca hra hnl hval hb
  generalize la.length = LA at *
  have Hrel := Lib.hid hrel
  generalize bitLen na = px at *
  generalize bitLen nb = py at *
  generalize hQ : na / (nb * 2 ^ S) = Q at *
  generalize hR : na % (nb * 2 ^ S) = R at *
  have HP := Lib.hid (show na * pw 1074 = na * pw 1074 from rfl)
  have hSb : S ≤ 130 := by omega
  have he1 : e0 ≤ 1099 := by omega
  have Hez := Lib.hid (show e0 + 1 ≤ 1100 by omega)
  clear hrel hq hNl hDl h0D h0a h0b ha2 hb2 hQ hR hpx hpy HP hS hS1
  go_enter Tryd.func93, Tryd.ntmps93
  go_wp2_with fail
  with_reducible refine (Ksa.out _ _ HA.out).mono ?_
  rintro e w1 ⟨rfl, n1, rfl⟩
  go_wp2_with fail
  with_reducible refine (Ksb.out _ _ (HB.out.later (below_drewN (Below.refl _ _) n1))).mono ?_
  rintro e w1 ⟨rfl, n2, rfl⟩
  have HA2 := Lib.hid ((HA.out.later (below_drewN (Below.refl _ _) n1)).later (below_drewN (Below.refl _ _) n2))
  have HB2 := Lib.hid ((HB.out.later (below_drewN (Below.refl _ _) n1)).later (below_drewN (Below.refl _ _) n2))
  have Hb2 := Lib.hid (below_drewN (below_drewN (Below.refl w.heap.size w) n1) n2)
  have hsz2 := Hb2.out.size
  generalize (w.drewN n1).drewN n2 = W2 at *
  clear HA HB
  go_wp2_with fail
  with_reducible refine (Kl.out _ _ HB2.out).mono ?_
  rintro e w3 ⟨v3, rfl, hv3, hb3⟩
  have Hv3 := Lib.hid hv3; have Hoth := Lib.hid (HA2.out.later hb3); have Hb3 := Lib.hid (Hb2.out.trans (hb3.mono Hb2.out.size))
  clear hv3 hb3 HA2 HB2 Hb2
  go_wp2_with fail
  with_reducible refine (Kq.out _ _ _ Hoth.out Hv3.out).mono ?_
  rintro e w4 ⟨v4, v5, rfl, hv4, hv5, hb4⟩
  have Hv4 := Lib.hid hv4; have Hb4 := Lib.hid (Hb3.out.trans (hb4.mono Hb3.out.size))
  have hv5' := hv5
  obtain ⟨lr, ⟨ar, cr, rfl, hlr, hcr, -⟩, -, -⟩ := hv5
  have hlenR := isN_len hv5'
  have hlR : lr.length ≤ 9223372036854775807 := by unfold maxLen at hcr; omega
  clear hv4 hb4 hv5' hlr hcr Hv3 Hoth Hb3
  generalize lr.length = LR at *
  go_wp2_with fail
  with_reducible refine (Kf.out _ _ Hv4.out).mono ?_
  rintro e w5 ⟨x, rfl, hx, -, n5, rfl⟩
  obtain rfl := hx hfit
  rw [decide_eq_true hfit]
  have Hb5 := Lib.hid (below_drewN Hb4.out n5)
  generalize w4.drewN n5 = W5 at *
  clear hx Hv4 Hb4 Ksa Ksb Kl Kq Kf
  have Hmore : Hid (decide (0 < LR) = decide (0 < R)) := Lib.hid (by rw [← hlenR]; simp)
  clear hlenR
  go_wp2
  go_loopw [5, 8, 10, 11] (fun n m more _ wr => ∃ e y d r : Nat, n = .int .i64 ((e : Int) - 1074) ∧ m = .int .u64 y ∧ more = .bool (decide (0 < r)) ∧ NearRel (na * pw 1074) nb (na) e y d r ∧ e + y / 18014398509481984 ≤ 1100 ∧ wr = W5) (fun _ m _ _ _ => (intOf m).toNat)
  case atStart => exact ⟨e0, x, nb * 2 ^ S, R, by rw [Hns.out], rfl, by rw [Hmore.out], Hrel.out, by have h1 := Hrel.out.2.2.2.2.2.1; have h2 := Hez.out; omega, rfl⟩
  case round =>
    obtain ⟨e, y, d, r, rfl, rfl, rfl, hrel, hey, rfl⟩ := hrel
    clear Hmore Hrel he1 Hez hfit
    have hy1 := hrel.2.2.2.2.1
    have hy2 := hrel.2.2.2.2.2.1
    have he2 := hrel.2.2.2.2.2.2.1
    have hrel' := Lib.hid hrel
    have Hfin := Lib.hid (fun h => Hend.out e y d r hrel h)
    have Hrnd := Lib.hid (fun h h' => Hround.out e y d r hrel h h')
    have hb1 : decide (9007199254740992 ≤ (y : Int)) = true := by simp; omega
    clear hrel
    obtain ⟨m, hm⟩ : ∃ m : Nat, m = y / 2 := ⟨_, rfl⟩
    have hmi : (y : Int) / 2 = (m : Int) := by omega
    by_cases hbr : y < 18014398509481984
    · have hmb : m < 9007199254740992 := by omega
      have hmb' : (m : Int) < 9007199254740992 := by omega
      obtain ⟨e1, he1⟩ : ∃ e1 : Nat, e1 = e + 1 := ⟨_, rfl⟩
      have hei : (e : Int) - 1074 + 1 + 1074 = (e1 : Int) := by omega
      have he1b : e1 ≤ 1101 := by omega
      have hf0 := ext_from_eq ((e1 : Int) * 4503599627370496 + (m : Int)) (e1 * 4503599627370496 + m) (by omega) wr
      have hf1 := ext_from_eq ((e1 : Int) * 4503599627370496 + ((m : Int) + 1)) (e1 * 4503599627370496 + (m + 1)) (by omega) wr
      have Hf := Lib.hid (Hfin.out hbr)
      have hlast : lastOff y r = if y % 2 = 1 ∧ (0 < r ∨ m % 2 = 1) then m + 1 else m := by unfold lastOff; rw [← hm]
      rw [← he1] at Hf
      have He := Lib.hid he1
      by_cases hbit : y % 2 = 1
      · have hbi : (y : Int) % 2 = 1 := by omega
        by_cases hr : 0 < r
        · have hd : decide (0 < r) = true := decide_eq_true hr
          have Hl : Hid (lastOff y r = m + 1) := Lib.hid (by rw [hlast, if_pos ⟨hbit, Or.inl hr⟩])
          clear he1 hlast hr hbit hm hbr hey hmb
          go_wp2
          go_ret
          exact ⟨_, rfl, by rw [← Hl.out]; exact Hf.out, Hb5.out⟩
        · have hd : decide (0 < r) = false := decide_eq_false hr
          by_cases hodd : m % 2 = 1
          · have hoi : ((m : Int) % 2 == 1) = true := by simp; omega
            have Hl : Hid (lastOff y r = m + 1) := Lib.hid (by rw [hlast, if_pos ⟨hbit, Or.inr hodd⟩])
            clear he1 hlast hr hbit hm hbr hey hodd hmb
            go_wp2
            go_ret
            exact ⟨_, rfl, by rw [← Hl.out]; exact Hf.out, Hb5.out⟩
          · have hoi : ((m : Int) % 2 == 1) = false := by simp; omega
            have Hl : Hid (lastOff y r = m) := Lib.hid (by rw [hlast, if_neg (by omega)])
            clear he1 hlast hr hbit hm hbr hey hodd hmb
            go_wp2
            go_ret
            exact ⟨_, rfl, by rw [← Hl.out]; exact Hf.out, Hb5.out⟩
      · have hbi : (y : Int) % 2 = 0 := by omega
        have Hl : Hid (lastOff y r = m) := Lib.hid (by rw [hlast, if_neg (by omega)])
        clear he1 hlast hbit hm hbr hey hmb
        go_wp2
        go_ret
        exact ⟨_, rfl, by rw [← Hl.out]; exact Hf.out, Hb5.out⟩
    · have hmb' : ¬ (m : Int) < 9007199254740992 := by omega
      obtain ⟨g1, g2⟩ := Hrnd.out (by omega) (by omega)
      rw [← hm] at g1
      have G1 := Lib.hid g1
      have Hey : Hid (e + 1 + m / 18014398509481984 ≤ 1100) := Lib.hid (by omega)
      have hmy : m < y := by omega
      have he3 : e ≤ 1100 := by omega
      by_cases hbit : y % 2 = 1
      · have hbi : (y : Int) % 2 = 1 := by omega
        by_cases hr : 0 < r
        · have hd : decide (0 < r) = true := decide_eq_true hr
          have Hd : Hid (decide (0 < y % 2 * d + r) = true) := Lib.hid (by rw [g2, hd]; rfl)
          clear g1 g2 hr hbit hm hbr hey
          go_wp2
          go_roundw
          case rel => exact ⟨e + 1, m, 2 * d, y % 2 * d + r, by go_num, rfl, by rw [Hd.out], G1.out, Hey.out, trivial⟩
          case measure => simp [intOf]; omega
        · have hd : decide (0 < r) = false := decide_eq_false hr
          have Hd : Hid (decide (0 < y % 2 * d + r) = true) := Lib.hid (by rw [g2, hbit]; simp)
          clear g1 g2 hr hbit hm hbr hey
          go_wp2
          go_roundw
          case rel => exact ⟨e + 1, m, 2 * d, y % 2 * d + r, by go_num, rfl, by rw [Hd.out], G1.out, Hey.out, trivial⟩
          case measure => simp [intOf]; omega
      · have hbi : (y : Int) % 2 = 0 := by omega
        by_cases hr : 0 < r
        · have hd : decide (0 < r) = true := decide_eq_true hr
          have Hd : Hid (decide (0 < y % 2 * d + r) = true) := Lib.hid (by rw [g2, hd]; rfl)
          clear g1 g2 hr hbit hm hbr hey
          go_wp2
          go_roundw
          case rel => exact ⟨e + 1, m, 2 * d, y % 2 * d + r, by go_num, rfl, by rw [Hd.out], G1.out, Hey.out, trivial⟩
          case measure => simp [intOf]; omega
        · have hd : decide (0 < r) = false := decide_eq_false hr
          have Hd : Hid (decide (0 < y % 2 * d + r) = false) := Lib.hid (by rw [g2, hd, show y % 2 = 0 by omega]; rfl)
          clear g1 g2 hr hbit hm hbr hey
          go_wp2
          go_roundw
          case rel => exact ⟨e + 1, m, 2 * d, y % 2 * d + r, by go_num, rfl, by rw [Hd.out], G1.out, Hey.out, trivial⟩
          case measure => simp [intOf]; omega

theorem nearest_any (va vb : Value) (na nb : Nat) (w : World) (ha : IsN w va na) (hb : IsN w vb nb) (h0a : 0 < na) (h0b : 0 < nb) (ha2 : na ≤ 9223372036854775808) (hb2 : nb ≤ 9223372036854775808) :
    Calls Tryd.prog 93 #[va, vb] w (NearRes w na nb) := by
  have hbx := bit_le ha2
  have hby := bit_le hb2
  obtain ⟨-, -, hpx⟩ := bit_range h0a
  obtain ⟨-, -, hpy⟩ := bit_range h0b
  by_cases h : bitLen na < 54 + bitLen nb
  · exact nearest_up va vb na nb (54 + bitLen nb - bitLen na) (1074 - (54 + bitLen nb - bitLen na)) w ha hb h0a h0b ha2 hb2 (by omega) (by omega) (by omega)
  · exact nearest_down va vb na nb (bitLen na - (54 + bitLen nb)) (1074 + (bitLen na - (54 + bitLen nb))) w ha hb h0a h0b ha2 hb2 (by omega) rfl
end Go.Proofs.YtbpldplbkmabmaaDoor
