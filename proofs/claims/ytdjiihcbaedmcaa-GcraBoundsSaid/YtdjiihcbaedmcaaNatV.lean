/- Contracts of spigotref01's DocDiv and DocCeil. -/
import Derived.Test.YtdjiihcbaedmcaaNatQ
import Derived.Test.YtdjiihcbaedmcaaNatS
namespace Go.Proofs.Ytdjiihcbaedmcaa
open Go.RowKit

set_option maxHeartbeats 1000000 in
theorem docdiv_yes (a b : Int) (w : World) (ha : tickB a = true) (hb : tickB b = true) (h0 : 0 < b) :
    Calls Try.prog 30 #[.int .i64 a, .int .i64 b] w (ThreeRes w (a / b) (a % b) 0) := by
  obtain ⟨x, rfl, hx⟩ := tick_nat ha
  obtain ⟨y, rfl, hy⟩ := tick_nat hb
  have hx0 : ¬ (x : Int) < 0 := by omega
  have hne : ((y : Int) == 0) = false := beq_eq_false_iff_ne.2 (by omega)
  have Hx := Lib.hid (show x < 18446744073709551616 by omega)
  have Hy := Lib.hid (show y < 18446744073709551616 by omega)
  have Hxp := Lib.hid (pow_up (m := 64) (n := 90000) (show x < 2 ^ 64 by omega) (by omega))
  have Hyp := Lib.hid (pow_up (m := 64) (n := 90000) (show y < 2 ^ 64 by omega) (by omega))
  have hq : x / y ≤ 4611686018427387903 := Nat.le_trans (Nat.div_le_self x y) hx
  have hr : x % y ≤ 4611686018427387903 := Nat.le_trans (Nat.mod_le x y) hx
  have Hq := Lib.hid (show ((heldN (x / y) : Nat) : Int) = (x : Int) / (y : Int) by unfold heldN; rw [if_pos hq, Int.natCast_ediv])
  have Hr := Lib.hid (show ((heldN (x % y) : Nat) : Int) = (x : Int) % (y : Int) by unfold heldN; rw [if_pos hr, Int.natCast_emod])
  have H0 := Lib.hid (show 0 < y by omega)
  clear hq hr h0
  go_enter Try.func30, Try.ntmps30
  go_wp2_with (first | (go_at_call 19; (with_reducible refine (rform_any _ _).mono ?_); rintro e w' ⟨rfl, rfl⟩))
  refine (word_any x _ Hx.out).mono ?_
  rintro e w1 ⟨v1, rfl, hv1, hb1⟩
  have Hv1 := Lib.hid hv1; have Hb1 := Lib.hid hb1
  clear hv1 hb1
  go_wp2_with fail
  refine (word_any y _ Hy.out).mono ?_
  rintro e w2 ⟨v2, rfl, hv2, hb2⟩
  have Hv2 := Lib.hid hv2; have Hv1' := Lib.hid (Hv1.out.later hb2)
  have Hb2 : Hid (Below w.heap.size w w2) := Hb1.out.trans (hb2.mono Hb1.out.size)
  clear hv2 hb2 Hb1 Hv1
  go_wp2_with fail
  refine (quo_any v1 v2 x y _ Hv1'.out Hv2.out H0.out Hxp.out Hyp.out).mono ?_
  rintro e w3 ⟨q1, q2, rfl, hq1, hq2, hb3⟩
  have Hq1 := Lib.hid hq1; have Hq2 := Lib.hid hq2
  have Hb3 : Hid (Below w.heap.size w w3) := Hb2.out.trans (hb3.mono Hb2.out.size)
  clear hq1 hq2 hb3 Hb2 Hv1' Hv2 Hxp Hyp
  go_wp2_with fail
  refine (held_any q1 _ _ Hq1.out).mono ?_
  rintro e w4 ⟨rfl, hb4⟩
  have Hq2' := Lib.hid (Hq2.out.later hb4)
  have Hb4 : Hid (Below w.heap.size w w4) := Hb3.out.trans (hb4.mono Hb3.out.size)
  rw [Hq.out]
  clear hb4 Hb3 Hq2
  go_wp2_with fail
  refine (held_any q2 _ _ Hq2'.out).mono ?_
  rintro e w5 ⟨rfl, hb5⟩
  have Hb5 : Hid (Below w.heap.size w w5) := Hb4.out.trans (hb5.mono Hb4.out.size)
  rw [Hr.out]
  clear hb5 Hb4
  generalize (x : Int) / (y : Int) = z1 at *
  generalize (x : Int) % (y : Int) = z2 at *
  go_wp2
  go_ret3
  exact ⟨rfl, Hb5.out⟩

set_option maxHeartbeats 400000 in
theorem docdiv_zero (a : Int) (w : World) (ha : tickB a = true) :
    Calls Try.prog 30 #[.int .i64 a, .int .i64 0] w (ThreeRes w 0 0 1) := by
  have t0 : tickB 0 = true := by decide
  go_enter Try.func30, Try.ntmps30
  go_wp2_with (first | (go_at_call 19; (with_reducible refine (rform_any _ _).mono ?_); rintro e w' ⟨rfl, rfl⟩))
  go_ret3
  exact ⟨rfl, Below.refl _ _⟩

set_option maxHeartbeats 400000 in
theorem docdiv_no (a b : Int) (w : World) (h : (tickB a && tickB b) = false) :
    Calls Try.prog 30 #[.int .i64 a, .int .i64 b] w (ThreeRes w 0 0 1) := by
  cases ha : tickB a with
  | false =>
    clear h
    go_enter Try.func30, Try.ntmps30
    go_wp2_with (first | (go_at_call 19; (with_reducible refine (rform_any _ _).mono ?_); rintro e w' ⟨rfl, rfl⟩))
    go_ret3
    exact ⟨rfl, Below.refl _ _⟩
  | true =>
    have hb : tickB b = false := by simpa [ha] using h
    clear h
    go_enter Try.func30, Try.ntmps30
    go_wp2_with (first | (go_at_call 19; (with_reducible refine (rform_any _ _).mono ?_); rintro e w' ⟨rfl, rfl⟩))
    go_ret3
    exact ⟨rfl, Below.refl _ _⟩

set_option maxHeartbeats 400000 in
theorem docceil_yes (a b : Int) (w : World) (ha : tickB a = true) (hb : tickB b = true) (h0 : 0 < b) :
    Calls Try.prog 32 #[.int .i64 a, .int .i64 b] w (TwoRes w (ceilI a b) 0) := by
  have a0 := (tickB_yes ha).1; have a1 := (tickB_yes ha).2
  obtain ⟨q0, q1, _, _⟩ := div_tick a0 h0
  have Hd := Lib.hid (fun v => docdiv_yes a b v ha hb h0)
  unfold ceilI
  by_cases hr : 0 < a % b
  · rw [if_pos hr]
    generalize a / b = q at *
    generalize a % b = r at *
    go_enter Try.func32, Try.ntmps32
    go_wp2_with (first | (go_at_call 30; (with_reducible refine (Hd.out _).mono ?_); rintro e w' ⟨rfl, hb1⟩))
    go_ret2
    exact ⟨rfl, by assumption⟩
  · rw [if_neg hr]
    generalize a / b = q at *
    generalize a % b = r at *
    go_enter Try.func32, Try.ntmps32
    go_wp2_with (first | (go_at_call 30; (with_reducible refine (Hd.out _).mono ?_); rintro e w' ⟨rfl, hb1⟩))
    go_ret2
    exact ⟨rfl, by assumption⟩

set_option maxHeartbeats 400000 in
theorem docceil_no (a b : Int) (w : World) (hd : ∀ v, Calls Try.prog 30 #[.int .i64 a, .int .i64 b] v (ThreeRes v 0 0 1)) :
    Calls Try.prog 32 #[.int .i64 a, .int .i64 b] w (TwoRes w 0 1) := by
  have Hd := Lib.hid hd
  clear hd
  go_enter Try.func32, Try.ntmps32
  go_wp2_with (first | (go_at_call 30; (with_reducible refine (Hd.out _).mono ?_); rintro e w' ⟨rfl, hb1⟩))
  go_ret2
  exact ⟨rfl, by assumption⟩

end Go.Proofs.Ytdjiihcbaedmcaa
