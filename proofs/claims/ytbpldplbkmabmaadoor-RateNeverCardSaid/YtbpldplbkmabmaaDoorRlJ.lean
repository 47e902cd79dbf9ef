/- Contracts of real.Seconds, spigotlaw03.of and spigotlaw03.awake. -/
import Derived.Test.YtbpldplbkmabmaaDoorRlH
import Derived.Test.YtbpldplbkmabmaaDoorRlI
import Derived.Test.YtbpldplbkmabmaaDoorTickC
namespace Go.Proofs.YtbpldplbkmabmaaDoor
open Go.RowKit

theorem u64_nat {x : Int} (h : (Lit.int .u64 x).wf = true) : ∃ b : Nat, x = (b : Int) ∧ b < 18446744073709551616 := by
  have e1 : IntKind.u64.min = 0 := by decide
  have e2 : IntKind.u64.max = 18446744073709551615 := by decide
  simp only [Lit.wf, e1, e2, Bool.and_eq_true, decide_eq_true_eq] at h
  exact ⟨x.toNat, by omega, by omega⟩

def secB (t hz : Int) : Bool := decide (0 ≤ t ∧ t ≤ 4611686018427387903 ∧ 1 ≤ hz ∧ hz ≤ 1000000000)
theorem secB_yes {t hz : Int} (h : secB t hz = true) : 0 ≤ t ∧ t ≤ 4611686018427387903 ∧ 1 ≤ hz ∧ hz ≤ 1000000000 := by simpa [secB] using h
theorem secB_no {t hz : Int} (h : secB t hz = false) : t < 0 ∨ 4611686018427387903 < t ∨ hz < 1 ∨ 1000000000 < hz := by
  unfold secB at h
  have := of_decide_eq_false h
  omega

theorem seconds_no (t hz : Int) (w : World) (h : secB t hz = false) :
    Calls Tryd.prog 39 #[.int .i64 t, .int .i64 hz] w fun e w' => e = .returned (.tuple #[.float .f64 0, .int .i64 1]) ∧ w = w' := by
  have hno := secB_no h
  clear h
  by_cases c1 : t < 0
  · go_enter Tryd.func39, Tryd.ntmps39
    go_wp2
    go_ret2
    exact ⟨rfl, rfl⟩
  · by_cases c2 : 4611686018427387903 < t
    · go_enter Tryd.func39, Tryd.ntmps39
      go_wp2
      go_ret2
      exact ⟨rfl, rfl⟩
    · by_cases c3 : hz < 1
      · go_enter Tryd.func39, Tryd.ntmps39
        go_wp2
        go_ret2
        exact ⟨rfl, rfl⟩
      · have c4 : 1000000000 < hz := by omega
        clear hno
        go_enter Tryd.func39, Tryd.ntmps39
        go_wp2
        go_ret2
        exact ⟨rfl, rfl⟩

theorem seconds_zero (hz : Int) (w : World) (h : secB 0 hz = true) :
    Calls Tryd.prog 39 #[.int .i64 0, .int .i64 hz] w fun e w' => e = .returned (.tuple #[.float .f64 0, .int .i64 0]) ∧ w = w' := by
  obtain ⟨-, -, h3, h4⟩ := secB_yes h
  have K := Lib.hid (fun v => ratio_none hz v (by omega))
  clear h
  go_enter Tryd.func39, Tryd.ntmps39
  go_wp2_with (go_at_call 41; (with_reducible refine (K.out _).mono ?_); rintro e w' ⟨rfl, rfl⟩)
  go_ret2
  exact ⟨rfl, rfl⟩

def SecRes (w : World) (a b : Nat) (e : Ending) (w' : World) : Prop := ∃ r, e = .returned (.tuple #[.float .f64 r, .int .i64 0]) ∧ RatNat a b r ∧ Below w.heap.size w w'

theorem seconds_some (t hz : Int) (w : World) (h : secB t hz = true) (h0 : 0 < t) :
    Calls Tryd.prog 39 #[.int .i64 t, .int .i64 hz] w (SecRes w t.natAbs hz.natAbs) := by
  obtain ⟨h1, h2, h3, h4⟩ := secB_yes h
  have K := Lib.hid (fun v => ratio_some t hz v (by omega) (by omega) (by omega) (by omega) (by omega) (by omega))
  have Hs := Lib.hid (show (decide (t < 0) != decide (hz < 0)) = false by rw [decide_eq_false (by omega), decide_eq_false (by omega)]; rfl)
  clear h
  go_enter Tryd.func39, Tryd.ntmps39
  go_wp2_with fail
  with_reducible refine (K.out _).mono ?_
  rintro e w1 ⟨r, rfl, hr, hb⟩
  have Hr := Lib.hid hr; have Hb := Lib.hid hb
  clear hr hb
  rw [Hs.out]
  go_wp2
  go_ret2
  exact ⟨r, rfl, Hr.out, Hb.out⟩

theorem of3_any (b : Nat) (w : World) : Calls Tryd.prog 29 #[.int .u64 b] w fun e w' => e = .returned (.float .f64 b) ∧ w = w' := by
  have h2 := ext_from (b : Int) w
  rw [Int.toNat_natCast] at h2
  go_enter Tryd.func29, Tryd.ntmps29
  go_wp2
  go_ret
  exact ⟨rfl, rfl⟩

theorem awake_ticks : tkE 4602678819172646912 1000 0 = 0 ∧ tkV 4602678819172646912 1000 0 = 500 := by
  have h : tickN (rg 4602678819172646912) (1000 : Int).toNat (0 : Int).toNat = 500 := by decide +kernel
  have := tk_some (b := 4602678819172646912) (hz := 1000) (how := 0) (by decide) (by decide) (by decide) (by rw [h]; decide)
  rw [h] at this
  exact this

theorem awake_quarter {r : Nat} (h : RatNat 1 4 r) : r = 4598175219545276416 :=
  near_of_exact (by decide) h.1 (by decide +kernel)

set_option maxHeartbeats 4000000 in
theorem awake3 (w : World) (hT : Tab w) :
    Calls Tryd.prog 32 #[] w fun e w' => e = .returned (.bool true) ∧ Below w.heap.size w w' := by
  have HT := Lib.hid hT
  have Kt := Lib.hid (fun v (h : Tab v) => ticks_any 4602678819172646912 1000 0 v (by decide) h)
  unfold TkRes at Kt
  rw [awake_ticks.1, awake_ticks.2] at Kt
  have Ks := Lib.hid (fun v => seconds_some 1 4 v (by decide) (by decide))
  have Ke := Lib.hid (fun v (h : Tab v) => exact_some 13828302655841107968 3 1072 v (by decide) (by decide) (by decide) (by decide) (by decide +kernel) h)
  have Kk := Lib.hid (fun v => kind_any 4607182418800017408 v (by decide))
  rw [show kindN (rg 4607182418800017408) = 2 by decide] at Kk
  have Ko := Lib.hid (fun v => order_any 4607182418800017408 4611686018427387904 v (by decide) (by decide))
  rw [show cmpZ (rk 4607182418800017408) (rk 4611686018427387904) = -1 by decide] at Ko
  rw [show sgn 13828302655841107968 = true by decide] at Ke
  have hq : (FloatKind.f64.format.order 4598175219545276416 4598175219545276416 == some .eq) = true := by rw [ford_self _ (by decide)]; decide
  clear hT
  go_enter Tryd.func32, Tryd.ntmps32
  go_wp2_with fail
  with_reducible refine (Kt.out _ HT.out).mono ?_
  rintro e w1 ⟨rfl, hb1⟩
  have Hb1 := Lib.hid hb1
  clear hb1
  go_wp2_with fail
  refine (Ks.out _).mono ?_
  rintro e w2 ⟨r, rfl, hr, hb2⟩
  obtain rfl := awake_quarter hr
  have Hb2 := Lib.hid (Hb1.out.trans (hb2.mono Hb1.out.size))
  clear hr hb2
  go_wp2_with fail
  refine (Ke.out _ (HT.out.later Hb2.out)).mono ?_
  rintro e w3 ⟨rfl, n3, rfl⟩
  go_wp2_with (first | (go_at_call 33; (with_reducible refine (Kk.out _).mono ?_); rintro e w' ⟨rfl, rfl⟩) | (go_at_call 46; (with_reducible refine (Ko.out _).mono ?_); rintro e w' ⟨rfl, rfl⟩))
  go_ret
  exact ⟨rfl, below_drewN Hb2.out _⟩
end Go.Proofs.YtbpldplbkmabmaaDoor
