/- Contracts of spigotref01's Add, Sub, Mul and DocTwo, of ticks. -/
import Derived.Test.YtdjiihcbaedmcaaNatTi
import Derived.Test.YtdjiihcbaedmcaaTickP
namespace Go.Proofs.Ytdjiihcbaedmcaa
open Go.RowKit

theorem tick_nat {a : Int} (h : tickB a = true) : ∃ k : Nat, a = (k : Int) ∧ k ≤ 4611686018427387903 := by
  have := tickB_yes h
  exact ⟨a.toNat, by omega, by omega⟩

theorem small_pow {k : Nat} (h : k < 18446744073709551616) : k < 2 ^ 100000 :=
  Nat.lt_of_lt_of_le h (Nat.pow_le_pow_right (n := 2) (by decide) (by decide : 64 ≤ 100000))

set_option maxHeartbeats 400000 in
theorem radd_yes (a b : Int) (w : World) (ha : tickB a = true) (hb : tickB b = true) :
    Calls Try.prog 40 #[.int .i64 a, .int .i64 b] w (IntRes w (clampI (a + b))) := by
  obtain ⟨x, rfl, hx⟩ := tick_nat ha
  obtain ⟨y, rfl, hy⟩ := tick_nat hb
  have Hx := Lib.hid (show x < 18446744073709551616 by omega)
  have Hy := Lib.hid (show y < 18446744073709551616 by omega)
  have hh := fun v w h => held_any v (x + y) w h
  have hc : ((heldN (x + y) : Nat) : Int) = clampI ((x : Int) + (y : Int)) := by rw [heldN_clamp, Int.natCast_add]
  rw [hc] at hh
  clear hc
  generalize clampI ((x : Int) + (y : Int)) = r at *
  have Hh := Lib.hid hh
  clear hh
  go_enter Try.func40, Try.ntmps40
  go_wp2_with fail
  refine (word_any x _ Hx.out).mono ?_
  rintro e w1 ⟨v1, rfl, hv1, hb1⟩
  have Hv1 := Lib.hid hv1; have Hb1 := Lib.hid hb1
  clear hv1 hb1
  go_wp2_with fail
  refine (word_any y _ Hy.out).mono ?_
  rintro e w2 ⟨v2, rfl, hv2, hb2⟩
  have Hv2 := Lib.hid hv2; have Hb2 := Lib.hid hb2
  clear hv2 hb2
  go_wp2_with fail
  refine (plus_any v1 v2 x y _ (Hv1.out.later Hb2.out) Hv2.out (small_pow Hx.out) (small_pow Hy.out)).mono ?_
  rintro e w3 ⟨v3, rfl, hv3, hb3⟩
  have Hv3 := Lib.hid hv3; have Hb3 := Lib.hid hb3
  clear hv3 hb3
  go_wp2_with fail
  refine (Hh.out v3 _ Hv3.out).mono ?_
  rintro e w4 ⟨rfl, hb4⟩
  have Hb : Hid (Below w.heap.size w w4) := ((Hb1.out.trans (Hb2.out.mono Hb1.out.size)).trans (Hb3.out.mono (Nat.le_trans Hb1.out.size Hb2.out.size))).trans (hb4.mono (Nat.le_trans (Nat.le_trans Hb1.out.size Hb2.out.size) Hb3.out.size))
  clear hb4
  go_wp2
  go_ret
  exact ⟨rfl, Hb.out⟩

set_option maxHeartbeats 400000 in
theorem rmul_yes (a b : Int) (w : World) (ha : tickB a = true) (hb : tickB b = true) :
    Calls Try.prog 54 #[.int .i64 a, .int .i64 b] w (IntRes w (clampI (a * b))) := by
  obtain ⟨x, rfl, hx⟩ := tick_nat ha
  obtain ⟨y, rfl, hy⟩ := tick_nat hb
  have Hx := Lib.hid (show x < 18446744073709551616 by omega)
  have Hy := Lib.hid (show y < 18446744073709551616 by omega)
  have hh := fun v w h => held_any v (x * y) w h
  have hc : ((heldN (x * y) : Nat) : Int) = clampI ((x : Int) * (y : Int)) := by rw [heldN_clamp, Int.natCast_mul]
  rw [hc] at hh
  clear hc
  generalize clampI ((x : Int) * (y : Int)) = r at *
  have Hh := Lib.hid hh
  clear hh
  go_enter Try.func54, Try.ntmps54
  go_wp2_with fail
  refine (word_any x _ Hx.out).mono ?_
  rintro e w1 ⟨v1, rfl, hv1, hb1⟩
  have Hv1 := Lib.hid hv1; have Hb1 := Lib.hid hb1
  clear hv1 hb1
  go_wp2_with fail
  refine (word_any y _ Hy.out).mono ?_
  rintro e w2 ⟨v2, rfl, hv2, hb2⟩
  have Hv2 := Lib.hid hv2; have Hb2 := Lib.hid hb2
  clear hv2 hb2
  go_wp2_with fail
  refine (times_any v1 v2 x y _ (Hv1.out.later Hb2.out) Hv2.out (small_pow Hx.out) (small_pow Hy.out)).mono ?_
  rintro e w3 ⟨v3, rfl, hv3, hb3⟩
  have Hv3 := Lib.hid hv3; have Hb3 := Lib.hid hb3
  clear hv3 hb3
  go_wp2_with fail
  refine (Hh.out v3 _ Hv3.out).mono ?_
  rintro e w4 ⟨rfl, hb4⟩
  have Hb : Hid (Below w.heap.size w w4) := ((Hb1.out.trans (Hb2.out.mono Hb1.out.size)).trans (Hb3.out.mono (Nat.le_trans Hb1.out.size Hb2.out.size))).trans (hb4.mono (Nat.le_trans (Nat.le_trans Hb1.out.size Hb2.out.size) Hb3.out.size))
  clear hb4
  go_wp2
  go_ret
  exact ⟨rfl, Hb.out⟩

set_option maxHeartbeats 400000 in
theorem rsub_yes (a b : Int) (w : World) (ha : tickB a = true) (hb : tickB b = true) :
    Calls Try.prog 53 #[.int .i64 a, .int .i64 b] w (IntRes w (clampI (a - b))) := by
  have a0 := (tickB_yes ha).1; have a1 := (tickB_yes ha).2; have b0 := (tickB_yes hb).1; have b1 := (tickB_yes hb).2
  by_cases h : a < b
  · have e : clampI (a - b) = 0 := by unfold clampI; rw [if_pos (by omega)]
    rw [e]
    clear e
    go_enter Try.func53, Try.ntmps53
    go_wp2
    go_ret
    exact ⟨rfl, Below.refl _ _⟩
  · have e : clampI (a - b) = a - b := clampI_id (by omega) (by omega)
    rw [e]
    clear e
    go_enter Try.func53, Try.ntmps53
    go_wp2
    go_ret
    exact ⟨rfl, Below.refl _ _⟩

set_option maxHeartbeats 400000 in
theorem doctwo0_yes (a b : Int) (w : World) (ha : tickB a = true) (hb : tickB b = true) :
    Calls Try.prog 25 #[.int .i64 0, .int .i64 a, .int .i64 b] w (TwoRes w (clampI (a + b)) 0) := by
  have Hc := Lib.hid (fun v => radd_yes a b v ha hb)
  generalize clampI (a + b) = r at *
  go_enter Try.func25, Try.ntmps25
  go_wp2_with (first | (go_at_call 19; (with_reducible refine (rform_any _ _).mono ?_); rintro e w' ⟨rfl, rfl⟩) | (go_at_call 40; (with_reducible refine (Hc.out _).mono ?_); rintro e w1 ⟨rfl, hb1⟩))
  go_ret2
  exact ⟨rfl, by assumption⟩

set_option maxHeartbeats 400000 in
theorem doctwo1_yes (a b : Int) (w : World) (ha : tickB a = true) (hb : tickB b = true) :
    Calls Try.prog 25 #[.int .i64 1, .int .i64 a, .int .i64 b] w (TwoRes w (clampI (a - b)) 0) := by
  have Hc := Lib.hid (fun v => rsub_yes a b v ha hb)
  generalize clampI (a - b) = r at *
  go_enter Try.func25, Try.ntmps25
  go_wp2_with (first | (go_at_call 19; (with_reducible refine (rform_any _ _).mono ?_); rintro e w' ⟨rfl, rfl⟩) | (go_at_call 53; (with_reducible refine (Hc.out _).mono ?_); rintro e w1 ⟨rfl, hb1⟩))
  go_ret2
  exact ⟨rfl, by assumption⟩

set_option maxHeartbeats 400000 in
theorem doctwo2_yes (a b : Int) (w : World) (ha : tickB a = true) (hb : tickB b = true) :
    Calls Try.prog 25 #[.int .i64 2, .int .i64 a, .int .i64 b] w (TwoRes w (clampI (a * b)) 0) := by
  have Hc := Lib.hid (fun v => rmul_yes a b v ha hb)
  generalize clampI (a * b) = r at *
  go_enter Try.func25, Try.ntmps25
  go_wp2_with (first | (go_at_call 19; (with_reducible refine (rform_any _ _).mono ?_); rintro e w' ⟨rfl, rfl⟩) | (go_at_call 54; (with_reducible refine (Hc.out _).mono ?_); rintro e w1 ⟨rfl, hb1⟩))
  go_ret2
  exact ⟨rfl, by assumption⟩

set_option maxHeartbeats 400000 in
theorem doctwo_no (k a b : Int) (w : World) (h : (tickB a && tickB b) = false) :
    Calls Try.prog 25 #[.int .i64 k, .int .i64 a, .int .i64 b] w (TwoRes w 0 1) := by
  cases ha : tickB a with
  | false =>
    clear h
    go_enter Try.func25, Try.ntmps25
    go_wp2_with (first | (go_at_call 19; (with_reducible refine (rform_any _ _).mono ?_); rintro e w' ⟨rfl, rfl⟩))
    go_ret2
    exact ⟨rfl, Below.refl _ _⟩
  | true =>
    have hb : tickB b = false := by simpa [ha] using h
    clear h
    go_enter Try.func25, Try.ntmps25
    go_wp2_with (first | (go_at_call 19; (with_reducible refine (rform_any _ _).mono ?_); rintro e w' ⟨rfl, rfl⟩))
    go_ret2
    exact ⟨rfl, Below.refl _ _⟩

end Go.Proofs.Ytdjiihcbaedmcaa
