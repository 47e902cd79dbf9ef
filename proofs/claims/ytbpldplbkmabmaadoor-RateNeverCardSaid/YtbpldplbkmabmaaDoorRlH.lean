/- The contract of real.Ratio, the divisor shifted, and as a whole. PRINTED by gen_ratio.py. -/
import Derived.Test.YtbpldplbkmabmaaDoorRlG
namespace Go.Proofs.YtbpldplbkmabmaaDoor
open Go.RowKit

set_option maxHeartbeats 4000000 in
set_option maxRecDepth 100000 in
theorem ratio_down_walk (a b : Int) (w : World) (ha1 : -9223372036854775808 ≤ a) (ha2 : a ≤ 9223372036854775807) (hb1 : -9223372036854775808 ≤ b) (hb2 : b ≤ 9223372036854775807) (ha : a ≠ 0) (hb : b ≠ 0)
    (hS : bitLen a.natAbs = 63 + bitLen b.natAbs) :
    Calls Tryd.prog 41 #[.int .i64 a, .int .i64 b] w (RatRes w a b) := by
  have Ka := Lib.hid (fun v => rsize_any a v ha1 ha2)
  have Kb := Lib.hid (fun v => rsize_any b v hb1 hb2)
  have h0a : (a == 0) = false := by simpa using ha
  have h0b : (b == 0) = false := by simpa using hb
  have hna : 0 < a.natAbs := by omega
  have hnb : 0 < b.natAbs := by omega
  have hna2 : a.natAbs ≤ 9223372036854775808 := by omega
  have hnb2 : b.natAbs ≤ 9223372036854775808 := by omega
  unfold RatRes
  generalize a.natAbs = x at *
  generalize b.natAbs = y at *
  have hbx := bit_le hna2
  have hby := bit_le hnb2
  obtain ⟨-, -, hpx⟩ := bit_range hna
  obtain ⟨q1, q2, q3⟩ := quot_down hna hnb hS
  obtain ⟨t1, t2⟩ := stick_le63 q1 q2
  obtain ⟨R, f1, f2, f3, f4⟩ := float_whole (stick x (y * 2 ^ 1)) 1074 rfl t1 t2
  obtain ⟨r, hr1, hr2⟩ := rat_down rfl hnb f3 f4 f2
  have Hr1 := Lib.hid hr1; have Hr2 := Lib.hid hr2
  have Kof := Lib.hid (fun n v h => pof_any n v h)
  have Kbx := Lib.hid (fun u v (h : IsN v u x) => pbits_pw u x v h (le_pw (word_pw hna2) (by decide)))
  have Kby := Lib.hid (fun u v (h : IsN v u y) => pbits_pw u y v h (le_pw (word_pw hnb2) (by decide)))
  have Kleft : Hid (∀ u v, IsN v u y → Calls Tryd.prog 79 #[u, .int .i64 1] v (NatRes v (y * 2 ^ 1))) := Lib.hid (fun u v (h : IsN v u y) => pleft_pw u y 1 v h (le_pw (word_pw hnb2) (by decide)) (by decide))
  have Kq := Lib.hid (fun u u' v (h : IsN v u x) (h' : IsN v u' (y * 2 ^ 1)) => pquo_pw u u' x _ v h h' (by omega) (le_pw (word_pw hna2) (by decide)) (shift_pw hnb2 (by decide)) q3 (by omega))
  have Kl := Lib.hid (fun v => ldexp_any R 2 1 1 v (by omega) (by omega) (by omega) (by omega) (by omega))
  have hun := neg_unary (show r < 9223372036854775808 by have := hr1.2.2; omega)
  have hstick : stick x (y * 2 ^ 1) = if 0 < x % (y * 2 ^ 1) ∧ x / (y * 2 ^ 1) % 2 = 0 then x / (y * 2 ^ 1) + 1 else x / (y * 2 ^ 1) := rfl
  have hSi : (62 : Int) - (bitLen x : Int) + (bitLen y : Int) = -1 := by omega
  generalize stick x (y * 2 ^ 1) = st at *
  generalize x / (y * 2 ^ 1) = Q at *
  generalize hrem : x % (y * 2 ^ 1) = rem at *
  have hor := u64_or_nat Q 1 (by omega) (by decide)
  rw [or_one] at hor
  have Hor : Hid (0 < rem → bits .or .u64 (Q : Int) 1 = (st : Int)) := Lib.hid fun h => by
    rw [hstick]
    by_cases ho : Q % 2 = 0
    · rw [if_pos ⟨h, ho⟩]; rw [if_pos ho] at hor; exact hor
    · rw [if_neg (fun h' => ho h'.2)]; rw [if_neg ho] at hor; exact hor
  have Hor2 : Hid (rem = 0 → Q = st) := Lib.hid fun h => by rw [hstick, if_neg (by omega)]
  generalize bitLen x = px at *
  generalize bitLen y = py at *
  have Hna2 := Lib.hid hna2; have Hnb2 := Lib.hid hnb2
  clear ha hb hr1 hr2 hor hstick hrem f2 f3 f4 q1 q3 hS hpx hna hnb
  have hxw : x < 18446744073709551616 := by omega
  have hyw : y < 18446744073709551616 := by omega
  by_cases hrem : 0 < rem
  · have hor1 := Hor.out hrem
    by_cases sa : a < 0
    · by_cases sb : b < 0
      · have Hsg := Lib.hid (show (decide (a < 0) != decide (b < 0)) = false by rw [decide_eq_true sa, decide_eq_true sb]; rfl)
        have da : decide (a < 0) = true := decide_eq_true sa
        have db : decide (b < 0) = true := decide_eq_true sb
        go_enter Tryd.func41, Tryd.ntmps41
        go_wp2_with fail
        with_reducible refine (Ka.out _).mono ?_
        rintro e w' ⟨rfl, rfl⟩
        go_wp2_with fail
        with_reducible refine (Kof.out x _ hxw).mono ?_
        rintro e w1 ⟨n1, rfl, hn1, hb1⟩
        have Hn1 := Lib.hid hn1; have Hb1 := Lib.hid hb1
        clear hn1 hb1
        go_wp2_with fail
        with_reducible refine (Kb.out _).mono ?_
        rintro e w' ⟨rfl, rfl⟩
        go_wp2_with fail
        with_reducible refine (Kof.out y _ hyw).mono ?_
        rintro e w2 ⟨n2, rfl, hn2, hb2⟩
        have Hn2 := Lib.hid hn2; have Hn1' := Lib.hid (Hn1.out.later hb2); have Hb2 := Lib.hid (Hb1.out.trans (hb2.mono Hb1.out.size))
        clear hn2 hb2 Hn1 Hb1
        go_wp2_with fail
        with_reducible refine (Kbx.out _ _ Hn1'.out).mono ?_
        rintro e w' ⟨rfl, rfl⟩
        go_wp2_with fail
        with_reducible refine (Kby.out _ _ Hn2.out).mono ?_
        rintro e w' ⟨rfl, rfl⟩
        go_wp2_with fail
        with_reducible refine (Kleft.out _ _ Hn2.out).mono ?_
        rintro e w3 ⟨n3, rfl, hn3, hb3⟩
        have Hn3 := Lib.hid hn3; have Hn2' := Lib.hid (Hn1'.out.later hb3); have Hb3 := Lib.hid (Hb2.out.trans (hb3.mono Hb2.out.size))
        clear hn3 hb3 Hn2 Hb2 Hn1'
        go_wp2_with fail
        with_reducible refine (Kq.out _ _ _ Hn2'.out Hn3.out).mono ?_
        rintro e w4 ⟨v4, rfl, hv4, hb4⟩
        have Hb4 := Lib.hid (Hb3.out.trans (hb4.mono Hb3.out.size))
        clear hb4 Hn3 Hn2' Hb3
        have hlen0 := hv4
        obtain ⟨l, ⟨ar, cr, rfl, hl, hc, hr⟩, hn, hval⟩ := hv4
        have hlen := isN_len hlen0
        have hlb : l.length ≤ 9223372036854775807 := by unfold maxLen at hc; omega
        clear hl hc hr hn hval hlen0
        generalize l.length = L at *
        have hL : 0 < L := by first | (rw [decide_eq_true hrem] at hlen; simpa using hlen) | (rw [decide_eq_false hrem] at hlen; simpa using hlen)
        clear hlen hrem
        go_wp2_with fail
        with_reducible refine (Kl.out _).mono ?_
        rintro e w5 ⟨u, rfl, hu, rfl⟩
        have hur := Hr2.out u hu
        rw [hur]
        clear hu hur
        go_wp2
        go_ret2
        exact ⟨r, by rw [Hsg.out]; rfl, Hr1.out, Hb4.out⟩
      · have Hsg := Lib.hid (show (decide (a < 0) != decide (b < 0)) = true by rw [decide_eq_true sa, decide_eq_false sb]; rfl)
        have da : decide (a < 0) = true := decide_eq_true sa
        have db : decide (b < 0) = false := decide_eq_false sb
        go_enter Tryd.func41, Tryd.ntmps41
        go_wp2_with fail
        with_reducible refine (Ka.out _).mono ?_
        rintro e w' ⟨rfl, rfl⟩
        go_wp2_with fail
        with_reducible refine (Kof.out x _ hxw).mono ?_
        rintro e w1 ⟨n1, rfl, hn1, hb1⟩
        have Hn1 := Lib.hid hn1; have Hb1 := Lib.hid hb1
        clear hn1 hb1
        go_wp2_with fail
        with_reducible refine (Kb.out _).mono ?_
        rintro e w' ⟨rfl, rfl⟩
        go_wp2_with fail
        with_reducible refine (Kof.out y _ hyw).mono ?_
        rintro e w2 ⟨n2, rfl, hn2, hb2⟩
        have Hn2 := Lib.hid hn2; have Hn1' := Lib.hid (Hn1.out.later hb2); have Hb2 := Lib.hid (Hb1.out.trans (hb2.mono Hb1.out.size))
        clear hn2 hb2 Hn1 Hb1
        go_wp2_with fail
        with_reducible refine (Kbx.out _ _ Hn1'.out).mono ?_
        rintro e w' ⟨rfl, rfl⟩
        go_wp2_with fail
        with_reducible refine (Kby.out _ _ Hn2.out).mono ?_
        rintro e w' ⟨rfl, rfl⟩
        go_wp2_with fail
        with_reducible refine (Kleft.out _ _ Hn2.out).mono ?_
        rintro e w3 ⟨n3, rfl, hn3, hb3⟩
        have Hn3 := Lib.hid hn3; have Hn2' := Lib.hid (Hn1'.out.later hb3); have Hb3 := Lib.hid (Hb2.out.trans (hb3.mono Hb2.out.size))
        clear hn3 hb3 Hn2 Hb2 Hn1'
        go_wp2_with fail
        with_reducible refine (Kq.out _ _ _ Hn2'.out Hn3.out).mono ?_
        rintro e w4 ⟨v4, rfl, hv4, hb4⟩
        have Hb4 := Lib.hid (Hb3.out.trans (hb4.mono Hb3.out.size))
        clear hb4 Hn3 Hn2' Hb3
        have hlen0 := hv4
        obtain ⟨l, ⟨ar, cr, rfl, hl, hc, hr⟩, hn, hval⟩ := hv4
        have hlen := isN_len hlen0
        have hlb : l.length ≤ 9223372036854775807 := by unfold maxLen at hc; omega
        clear hl hc hr hn hval hlen0
        generalize l.length = L at *
        have hL : 0 < L := by first | (rw [decide_eq_true hrem] at hlen; simpa using hlen) | (rw [decide_eq_false hrem] at hlen; simpa using hlen)
        clear hlen hrem
        go_wp2_with fail
        with_reducible refine (Kl.out _).mono ?_
        rintro e w5 ⟨u, rfl, hu, rfl⟩
        have hur := Hr2.out u hu
        rw [hur]
        clear hu hur
        go_wp2
        go_ret2
        exact ⟨r, by rw [Hsg.out]; rfl, Hr1.out, Hb4.out⟩
    · by_cases sb : b < 0
      · have Hsg := Lib.hid (show (decide (a < 0) != decide (b < 0)) = true by rw [decide_eq_false sa, decide_eq_true sb]; rfl)
        have da : decide (a < 0) = false := decide_eq_false sa
        have db : decide (b < 0) = true := decide_eq_true sb
        go_enter Tryd.func41, Tryd.ntmps41
        go_wp2_with fail
        with_reducible refine (Ka.out _).mono ?_
        rintro e w' ⟨rfl, rfl⟩
        go_wp2_with fail
        with_reducible refine (Kof.out x _ hxw).mono ?_
        rintro e w1 ⟨n1, rfl, hn1, hb1⟩
        have Hn1 := Lib.hid hn1; have Hb1 := Lib.hid hb1
        clear hn1 hb1
        go_wp2_with fail
        with_reducible refine (Kb.out _).mono ?_
        rintro e w' ⟨rfl, rfl⟩
        go_wp2_with fail
        with_reducible refine (Kof.out y _ hyw).mono ?_
        rintro e w2 ⟨n2, rfl, hn2, hb2⟩
        have Hn2 := Lib.hid hn2; have Hn1' := Lib.hid (Hn1.out.later hb2); have Hb2 := Lib.hid (Hb1.out.trans (hb2.mono Hb1.out.size))
        clear hn2 hb2 Hn1 Hb1
        go_wp2_with fail
        with_reducible refine (Kbx.out _ _ Hn1'.out).mono ?_
        rintro e w' ⟨rfl, rfl⟩
        go_wp2_with fail
        with_reducible refine (Kby.out _ _ Hn2.out).mono ?_
        rintro e w' ⟨rfl, rfl⟩
        go_wp2_with fail
        with_reducible refine (Kleft.out _ _ Hn2.out).mono ?_
        rintro e w3 ⟨n3, rfl, hn3, hb3⟩
        have Hn3 := Lib.hid hn3; have Hn2' := Lib.hid (Hn1'.out.later hb3); have Hb3 := Lib.hid (Hb2.out.trans (hb3.mono Hb2.out.size))
        clear hn3 hb3 Hn2 Hb2 Hn1'
        go_wp2_with fail
        with_reducible refine (Kq.out _ _ _ Hn2'.out Hn3.out).mono ?_
        rintro e w4 ⟨v4, rfl, hv4, hb4⟩
        have Hb4 := Lib.hid (Hb3.out.trans (hb4.mono Hb3.out.size))
        clear hb4 Hn3 Hn2' Hb3
        have hlen0 := hv4
        obtain ⟨l, ⟨ar, cr, rfl, hl, hc, hr⟩, hn, hval⟩ := hv4
        have hlen := isN_len hlen0
        have hlb : l.length ≤ 9223372036854775807 := by unfold maxLen at hc; omega
        clear hl hc hr hn hval hlen0
        generalize l.length = L at *
        have hL : 0 < L := by first | (rw [decide_eq_true hrem] at hlen; simpa using hlen) | (rw [decide_eq_false hrem] at hlen; simpa using hlen)
        clear hlen hrem
        go_wp2_with fail
        with_reducible refine (Kl.out _).mono ?_
        rintro e w5 ⟨u, rfl, hu, rfl⟩
        have hur := Hr2.out u hu
        rw [hur]
        clear hu hur
        go_wp2
        go_ret2
        exact ⟨r, by rw [Hsg.out]; rfl, Hr1.out, Hb4.out⟩
      · have Hsg := Lib.hid (show (decide (a < 0) != decide (b < 0)) = false by rw [decide_eq_false sa, decide_eq_false sb]; rfl)
        have da : decide (a < 0) = false := decide_eq_false sa
        have db : decide (b < 0) = false := decide_eq_false sb
        go_enter Tryd.func41, Tryd.ntmps41
        go_wp2_with fail
        with_reducible refine (Ka.out _).mono ?_
        rintro e w' ⟨rfl, rfl⟩
        go_wp2_with fail
        with_reducible refine (Kof.out x _ hxw).mono ?_
        rintro e w1 ⟨n1, rfl, hn1, hb1⟩
        have Hn1 := Lib.hid hn1; have Hb1 := Lib.hid hb1
        clear hn1 hb1
        go_wp2_with fail
        with_reducible refine (Kb.out _).mono ?_
        rintro e w' ⟨rfl, rfl⟩
        go_wp2_with fail
        with_reducible refine (Kof.out y _ hyw).mono ?_
        rintro e w2 ⟨n2, rfl, hn2, hb2⟩
        have Hn2 := Lib.hid hn2; have Hn1' := Lib.hid (Hn1.out.later hb2); have Hb2 := Lib.hid (Hb1.out.trans (hb2.mono Hb1.out.size))
        clear hn2 hb2 Hn1 Hb1
        go_wp2_with fail
        with_reducible refine (Kbx.out _ _ Hn1'.out).mono ?_
        rintro e w' ⟨rfl, rfl⟩
        go_wp2_with fail
        with_reducible refine (Kby.out _ _ Hn2.out).mono ?_
        rintro e w' ⟨rfl, rfl⟩
        go_wp2_with fail
        with_reducible refine (Kleft.out _ _ Hn2.out).mono ?_
        rintro e w3 ⟨n3, rfl, hn3, hb3⟩
        have Hn3 := Lib.hid hn3; have Hn2' := Lib.hid (Hn1'.out.later hb3); have Hb3 := Lib.hid (Hb2.out.trans (hb3.mono Hb2.out.size))
        clear hn3 hb3 Hn2 Hb2 Hn1'
        go_wp2_with fail
        with_reducible refine (Kq.out _ _ _ Hn2'.out Hn3.out).mono ?_
        rintro e w4 ⟨v4, rfl, hv4, hb4⟩
        have Hb4 := Lib.hid (Hb3.out.trans (hb4.mono Hb3.out.size))
        clear hb4 Hn3 Hn2' Hb3
        have hlen0 := hv4
        obtain ⟨l, ⟨ar, cr, rfl, hl, hc, hr⟩, hn, hval⟩ := hv4
        have hlen := isN_len hlen0
        have hlb : l.length ≤ 9223372036854775807 := by unfold maxLen at hc; omega
        clear hl hc hr hn hval hlen0
        generalize l.length = L at *
        have hL : 0 < L := by first | (rw [decide_eq_true hrem] at hlen; simpa using hlen) | (rw [decide_eq_false hrem] at hlen; simpa using hlen)
        clear hlen hrem
        go_wp2_with fail
        with_reducible refine (Kl.out _).mono ?_
        rintro e w5 ⟨u, rfl, hu, rfl⟩
        have hur := Hr2.out u hu
        rw [hur]
        clear hu hur
        go_wp2
        go_ret2
        exact ⟨r, by rw [Hsg.out]; rfl, Hr1.out, Hb4.out⟩
  · have hst := Hor2.out (by omega)
    subst hst
    by_cases sa : a < 0
    · by_cases sb : b < 0
      · have Hsg := Lib.hid (show (decide (a < 0) != decide (b < 0)) = false by rw [decide_eq_true sa, decide_eq_true sb]; rfl)
        have da : decide (a < 0) = true := decide_eq_true sa
        have db : decide (b < 0) = true := decide_eq_true sb
        go_enter Tryd.func41, Tryd.ntmps41
        go_wp2_with fail
        with_reducible refine (Ka.out _).mono ?_
        rintro e w' ⟨rfl, rfl⟩
        go_wp2_with fail
        with_reducible refine (Kof.out x _ hxw).mono ?_
        rintro e w1 ⟨n1, rfl, hn1, hb1⟩
        have Hn1 := Lib.hid hn1; have Hb1 := Lib.hid hb1
        clear hn1 hb1
        go_wp2_with fail
        with_reducible refine (Kb.out _).mono ?_
        rintro e w' ⟨rfl, rfl⟩
        go_wp2_with fail
        with_reducible refine (Kof.out y _ hyw).mono ?_
        rintro e w2 ⟨n2, rfl, hn2, hb2⟩
        have Hn2 := Lib.hid hn2; have Hn1' := Lib.hid (Hn1.out.later hb2); have Hb2 := Lib.hid (Hb1.out.trans (hb2.mono Hb1.out.size))
        clear hn2 hb2 Hn1 Hb1
        go_wp2_with fail
        with_reducible refine (Kbx.out _ _ Hn1'.out).mono ?_
        rintro e w' ⟨rfl, rfl⟩
        go_wp2_with fail
        with_reducible refine (Kby.out _ _ Hn2.out).mono ?_
        rintro e w' ⟨rfl, rfl⟩
        go_wp2_with fail
        with_reducible refine (Kleft.out _ _ Hn2.out).mono ?_
        rintro e w3 ⟨n3, rfl, hn3, hb3⟩
        have Hn3 := Lib.hid hn3; have Hn2' := Lib.hid (Hn1'.out.later hb3); have Hb3 := Lib.hid (Hb2.out.trans (hb3.mono Hb2.out.size))
        clear hn3 hb3 Hn2 Hb2 Hn1'
        go_wp2_with fail
        with_reducible refine (Kq.out _ _ _ Hn2'.out Hn3.out).mono ?_
        rintro e w4 ⟨v4, rfl, hv4, hb4⟩
        have Hb4 := Lib.hid (Hb3.out.trans (hb4.mono Hb3.out.size))
        clear hb4 Hn3 Hn2' Hb3
        have hlen0 := hv4
        obtain ⟨l, ⟨ar, cr, rfl, hl, hc, hr⟩, hn, hval⟩ := hv4
        have hlen := isN_len hlen0
        have hlb : l.length ≤ 9223372036854775807 := by unfold maxLen at hc; omega
        clear hl hc hr hn hval hlen0
        generalize l.length = L at *
        have hL : L = 0 := by first | (rw [decide_eq_true hrem] at hlen; simpa using hlen) | (rw [decide_eq_false hrem] at hlen; simpa using hlen)
        clear hlen hrem
        subst hL
        go_wp2_with fail
        with_reducible refine (Kl.out _).mono ?_
        rintro e w5 ⟨u, rfl, hu, rfl⟩
        have hur := Hr2.out u hu
        rw [hur]
        clear hu hur
        go_wp2
        go_ret2
        exact ⟨r, by rw [Hsg.out]; rfl, Hr1.out, Hb4.out⟩
      · have Hsg := Lib.hid (show (decide (a < 0) != decide (b < 0)) = true by rw [decide_eq_true sa, decide_eq_false sb]; rfl)
        have da : decide (a < 0) = true := decide_eq_true sa
        have db : decide (b < 0) = false := decide_eq_false sb
        go_enter Tryd.func41, Tryd.ntmps41
        go_wp2_with fail
        with_reducible refine (Ka.out _).mono ?_
        rintro e w' ⟨rfl, rfl⟩
        go_wp2_with fail
        with_reducible refine (Kof.out x _ hxw).mono ?_
        rintro e w1 ⟨n1, rfl, hn1, hb1⟩
        have Hn1 := Lib.hid hn1; have Hb1 := Lib.hid hb1
        clear hn1 hb1
        go_wp2_with fail
        with_reducible refine (Kb.out _).mono ?_
        rintro e w' ⟨rfl, rfl⟩
        go_wp2_with fail
        with_reducible refine (Kof.out y _ hyw).mono ?_
        rintro e w2 ⟨n2, rfl, hn2, hb2⟩
        have Hn2 := Lib.hid hn2; have Hn1' := Lib.hid (Hn1.out.later hb2); have Hb2 := Lib.hid (Hb1.out.trans (hb2.mono Hb1.out.size))
        clear hn2 hb2 Hn1 Hb1
        go_wp2_with fail
        with_reducible refine (Kbx.out _ _ Hn1'.out).mono ?_
        rintro e w' ⟨rfl, rfl⟩
        go_wp2_with fail
        with_reducible refine (Kby.out _ _ Hn2.out).mono ?_
        rintro e w' ⟨rfl, rfl⟩
        go_wp2_with fail
        with_reducible refine (Kleft.out _ _ Hn2.out).mono ?_
        rintro e w3 ⟨n3, rfl, hn3, hb3⟩
        have Hn3 := Lib.hid hn3; have Hn2' := Lib.hid (Hn1'.out.later hb3); have Hb3 := Lib.hid (Hb2.out.trans (hb3.mono Hb2.out.size))
        clear hn3 hb3 Hn2 Hb2 Hn1'
        go_wp2_with fail
        with_reducible refine (Kq.out _ _ _ Hn2'.out Hn3.out).mono ?_
        rintro e w4 ⟨v4, rfl, hv4, hb4⟩
        have Hb4 := Lib.hid (Hb3.out.trans (hb4.mono Hb3.out.size))
        clear hb4 Hn3 Hn2' Hb3
        have hlen0 := hv4
        obtain ⟨l, ⟨ar, cr, rfl, hl, hc, hr⟩, hn, hval⟩ := hv4
        have hlen := isN_len hlen0
        have hlb : l.length ≤ 9223372036854775807 := by unfold maxLen at hc; omega
        clear hl hc hr hn hval hlen0
        generalize l.length = L at *
        have hL : L = 0 := by first | (rw [decide_eq_true hrem] at hlen; simpa using hlen) | (rw [decide_eq_false hrem] at hlen; simpa using hlen)
        clear hlen hrem
        subst hL
        go_wp2_with fail
        with_reducible refine (Kl.out _).mono ?_
        rintro e w5 ⟨u, rfl, hu, rfl⟩
        have hur := Hr2.out u hu
        rw [hur]
        clear hu hur
        go_wp2
        go_ret2
        exact ⟨r, by rw [Hsg.out]; rfl, Hr1.out, Hb4.out⟩
    · by_cases sb : b < 0
      · have Hsg := Lib.hid (show (decide (a < 0) != decide (b < 0)) = true by rw [decide_eq_false sa, decide_eq_true sb]; rfl)
        have da : decide (a < 0) = false := decide_eq_false sa
        have db : decide (b < 0) = true := decide_eq_true sb
        go_enter Tryd.func41, Tryd.ntmps41
        go_wp2_with fail
        with_reducible refine (Ka.out _).mono ?_
        rintro e w' ⟨rfl, rfl⟩
        go_wp2_with fail
        with_reducible refine (Kof.out x _ hxw).mono ?_
        rintro e w1 ⟨n1, rfl, hn1, hb1⟩
        have Hn1 := Lib.hid hn1; have Hb1 := Lib.hid hb1
        clear hn1 hb1
        go_wp2_with fail
        with_reducible refine (Kb.out _).mono ?_
        rintro e w' ⟨rfl, rfl⟩
        go_wp2_with fail
        with_reducible refine (Kof.out y _ hyw).mono ?_
        rintro e w2 ⟨n2, rfl, hn2, hb2⟩
        have Hn2 := Lib.hid hn2; have Hn1' := Lib.hid (Hn1.out.later hb2); have Hb2 := Lib.hid (Hb1.out.trans (hb2.mono Hb1.out.size))
        clear hn2 hb2 Hn1 Hb1
        go_wp2_with fail
        with_reducible refine (Kbx.out _ _ Hn1'.out).mono ?_
        rintro e w' ⟨rfl, rfl⟩
        go_wp2_with fail
        with_reducible refine (Kby.out _ _ Hn2.out).mono ?_
        rintro e w' ⟨rfl, rfl⟩
        go_wp2_with fail
        with_reducible refine (Kleft.out _ _ Hn2.out).mono ?_
        rintro e w3 ⟨n3, rfl, hn3, hb3⟩
        have Hn3 := Lib.hid hn3; have Hn2' := Lib.hid (Hn1'.out.later hb3); have Hb3 := Lib.hid (Hb2.out.trans (hb3.mono Hb2.out.size))
        clear hn3 hb3 Hn2 Hb2 Hn1'
        go_wp2_with fail
        with_reducible refine (Kq.out _ _ _ Hn2'.out Hn3.out).mono ?_
        rintro e w4 ⟨v4, rfl, hv4, hb4⟩
        have Hb4 := Lib.hid (Hb3.out.trans (hb4.mono Hb3.out.size))
        clear hb4 Hn3 Hn2' Hb3
        have hlen0 := hv4
        obtain ⟨l, ⟨ar, cr, rfl, hl, hc, hr⟩, hn, hval⟩ := hv4
        have hlen := isN_len hlen0
        have hlb : l.length ≤ 9223372036854775807 := by unfold maxLen at hc; omega
        clear hl hc hr hn hval hlen0
        generalize l.length = L at *
        have hL : L = 0 := by first | (rw [decide_eq_true hrem] at hlen; simpa using hlen) | (rw [decide_eq_false hrem] at hlen; simpa using hlen)
        clear hlen hrem
        subst hL
        go_wp2_with fail
        with_reducible refine (Kl.out _).mono ?_
        rintro e w5 ⟨u, rfl, hu, rfl⟩
        have hur := Hr2.out u hu
        rw [hur]
        clear hu hur
        go_wp2
        go_ret2
        exact ⟨r, by rw [Hsg.out]; rfl, Hr1.out, Hb4.out⟩
      · have Hsg := Lib.hid (show (decide (a < 0) != decide (b < 0)) = false by rw [decide_eq_false sa, decide_eq_false sb]; rfl)
        have da : decide (a < 0) = false := decide_eq_false sa
        have db : decide (b < 0) = false := decide_eq_false sb
        go_enter Tryd.func41, Tryd.ntmps41
        go_wp2_with fail
        with_reducible refine (Ka.out _).mono ?_
        rintro e w' ⟨rfl, rfl⟩
        go_wp2_with fail
        with_reducible refine (Kof.out x _ hxw).mono ?_
        rintro e w1 ⟨n1, rfl, hn1, hb1⟩
        have Hn1 := Lib.hid hn1; have Hb1 := Lib.hid hb1
        clear hn1 hb1
        go_wp2_with fail
        with_reducible refine (Kb.out _).mono ?_
        rintro e w' ⟨rfl, rfl⟩
        go_wp2_with fail
        with_reducible refine (Kof.out y _ hyw).mono ?_
        rintro e w2 ⟨n2, rfl, hn2, hb2⟩
        have Hn2 := Lib.hid hn2; have Hn1' := Lib.hid (Hn1.out.later hb2); have Hb2 := Lib.hid (Hb1.out.trans (hb2.mono Hb1.out.size))
        clear hn2 hb2 Hn1 Hb1
        go_wp2_with fail
        with_reducible refine (Kbx.out _ _ Hn1'.out).mono ?_
        rintro e w' ⟨rfl, rfl⟩
        go_wp2_with fail
        with_reducible refine (Kby.out _ _ Hn2.out).mono ?_
        rintro e w' ⟨rfl, rfl⟩
        go_wp2_with fail
        with_reducible refine (Kleft.out _ _ Hn2.out).mono ?_
        rintro e w3 ⟨n3, rfl, hn3, hb3⟩
        have Hn3 := Lib.hid hn3; have Hn2' := Lib.hid (Hn1'.out.later hb3); have Hb3 := Lib.hid (Hb2.out.trans (hb3.mono Hb2.out.size))
        clear hn3 hb3 Hn2 Hb2 Hn1'
        go_wp2_with fail
        with_reducible refine (Kq.out _ _ _ Hn2'.out Hn3.out).mono ?_
        rintro e w4 ⟨v4, rfl, hv4, hb4⟩
        have Hb4 := Lib.hid (Hb3.out.trans (hb4.mono Hb3.out.size))
        clear hb4 Hn3 Hn2' Hb3
        have hlen0 := hv4
        obtain ⟨l, ⟨ar, cr, rfl, hl, hc, hr⟩, hn, hval⟩ := hv4
        have hlen := isN_len hlen0
        have hlb : l.length ≤ 9223372036854775807 := by unfold maxLen at hc; omega
        clear hl hc hr hn hval hlen0
        generalize l.length = L at *
        have hL : L = 0 := by first | (rw [decide_eq_true hrem] at hlen; simpa using hlen) | (rw [decide_eq_false hrem] at hlen; simpa using hlen)
        clear hlen hrem
        subst hL
        go_wp2_with fail
        with_reducible refine (Kl.out _).mono ?_
        rintro e w5 ⟨u, rfl, hu, rfl⟩
        have hur := Hr2.out u hu
        rw [hur]
        clear hu hur
        go_wp2
        go_ret2
        exact ⟨r, by rw [Hsg.out]; rfl, Hr1.out, Hb4.out⟩

theorem ratio_some (a b : Int) (w : World) (ha1 : -9223372036854775808 ≤ a) (ha2 : a ≤ 9223372036854775807) (hb1 : -9223372036854775808 ≤ b) (hb2 : b ≤ 9223372036854775807) (ha : a ≠ 0) (hb : b ≠ 0) :
    Calls Tryd.prog 41 #[.int .i64 a, .int .i64 b] w (RatRes w a b) := by
  have hbx := bit_le (n := a.natAbs) (by omega)
  have hby := bit_le (n := b.natAbs) (by omega)
  obtain ⟨-, -, hpy⟩ := bit_range (n := b.natAbs) (by omega)
  by_cases h : bitLen a.natAbs ≤ 62 + bitLen b.natAbs
  · exact ratio_up_walk a b (62 + bitLen b.natAbs - bitLen a.natAbs) w ha1 ha2 hb1 hb2 ha hb (by omega)
  · exact ratio_down_walk a b w ha1 ha2 hb1 hb2 ha hb (by omega)
end Go.Proofs.YtbpldplbkmabmaaDoor
