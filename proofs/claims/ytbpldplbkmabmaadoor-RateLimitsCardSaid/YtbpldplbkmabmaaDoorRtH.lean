/- RateLimits' walk. Printed by gen_limits.py. -/
import Derived.Test.YtbpldplbkmabmaaDoorRtG
import Derived.Test.YtbpldplbkmabmaaDoorRtD
import Derived.Test.YtbpldplbkmabmaaDoorRlI
namespace Go.Proofs.YtbpldplbkmabmaaDoor
open Go.RowKit
set_option linter.unusedVariables false

set_option maxRecDepth 100000 in
set_option maxHeartbeats 8000000 in
theorem limits_core (T tau hz span c q0 g0 q g : Int) (x f : Nat) (w : World) (hT : Tab w) (hx : x < 18446744073709551616)
    (k1 : ∀ v, Calls Tryd.prog 24 #[limV T tau, .int .i64 hz] v (FE v x f))
    (k2 : ∀ v, Calls Tryd.prog 25 #[limV T tau, .int .i64 hz] v (FE v x f))
    (k3 : ∀ v, Calls Tryd.prog 22 #[limV T tau] v (TwoRes v q0 g0))
    (k4 : ∀ v, Calls Tryd.prog 26 #[limV T tau, .int .i64 0] v (TwoRes v q0 g0))
    (k5 : ∀ v, Calls Tryd.prog 23 #[limV T tau, .int .i64 span] v (TwoRes v q g))
    (k6 : ∀ v, Calls Tryd.prog 26 #[limV T tau, .int .i64 span] v (TwoRes v q g))
    (k7 : ∀ v, Calls Tryd.prog 20 #[limV T tau] v (IntRes v c))
    (k8 : ∀ v, Calls Tryd.prog 27 #[limV T tau] v (IntRes v c)) :
    Calls Tryd.prog 6 #[limV T tau, .int .i64 hz, .int .i64 span] w fun e w' => e = .returned (.bool true) ∧ Below w.heap.size w w' := by
  have HT := Lib.hid hT
  have Ka := Lib.hid (fun v h => awake4 v h)
  have ks := fun v => rsame_any x x v
  simp only [beq_self_eq_true] at ks
  have Ks := Lib.hid ks
  unfold TwoRes FE IntRes limV at *
  have K1 := Lib.hid k1; have K2 := Lib.hid k2; have K3 := Lib.hid k3; have K4 := Lib.hid k4
  have K5 := Lib.hid k5; have K6 := Lib.hid k6; have K7 := Lib.hid k7; have K8 := Lib.hid k8
  clear k1 k2 k3 k4 k5 k6 k7 k8 hT hx ks
  go_enter Tryd.func6, Tryd.ntmps6
  go_wp2_with fail
  refine (K1.out _).mono ?_
  rintro e w1 ⟨rfl, hb1⟩
  have Hb1 := Lib.hid hb1
  clear hb1
  obtain ⟨hc, hf⟩ := bcell Hb1.out
  go_wp2_with fail
  refine (K2.out _).mono ?_
  rintro e w2 ⟨rfl, hb2⟩
  have Hb2 := Lib.hid (Hb1.out.trans (hb2.mono Hb1.out.size))
  clear hb2 hc hf
  obtain ⟨hc, hf⟩ := bcell Hb2.out
  go_wp2_with fail
  refine (K3.out _).mono ?_
  rintro e w3 ⟨rfl, hb3⟩
  have Hb3 := Lib.hid (Hb2.out.trans (hb3.mono Hb2.out.size))
  clear hb3 hc hf
  obtain ⟨hc, hf⟩ := bcell Hb3.out
  go_wp2_with fail
  refine (K4.out _).mono ?_
  rintro e w4 ⟨rfl, hb4⟩
  have Hb4 := Lib.hid (Hb3.out.trans (hb4.mono Hb3.out.size))
  clear hb4 hc hf
  obtain ⟨hc, hf⟩ := bcell Hb4.out
  go_wp2_with fail
  refine (K5.out _).mono ?_
  rintro e w5 ⟨rfl, hb5⟩
  have Hb5 := Lib.hid (Hb4.out.trans (hb5.mono Hb4.out.size))
  clear hb5 hc hf
  obtain ⟨hc, hf⟩ := bcell Hb5.out
  go_wp2_with fail
  refine (K6.out _).mono ?_
  rintro e w6 ⟨rfl, hb6⟩
  have Hb6 := Lib.hid (Hb5.out.trans (hb6.mono Hb5.out.size))
  clear hb6 hc hf
  obtain ⟨hc, hf⟩ := bcell Hb6.out
  have hs : w6.cell? ⟨w.heap.size, 0, none⟩ = some (.int .i64 T) ∧ w6.cell? ⟨w.heap.size, 1, none⟩ = some (.int .i64 tau) ∧ Below w.heap.size w w6 :=
    ⟨(hc w.heap.size 0 (by simp)).trans (by simp [go_sem]), (hc w.heap.size 1 (by simp)).trans (by simp [go_sem]), below_past Hb6.out⟩
  have Hs6 := Lib.hid hs
  have Hs6' := Lib.hid (ws_later hs (Below.refl _ _).drew)
  have HTa := Lib.hid (HT.out.later hs.2.2)
  have HTb := Lib.hid (HT.out.later Hs6'.out.2.2)
  clear hs hc hf Hb6
  go_wp2_with fail
  go_region_held3 (fun w' => w'.cell? ⟨w.heap.size, 0, none⟩ = some (.int .i64 T) ∧ w'.cell? ⟨w.heap.size, 1, none⟩ = some (.int .i64 tau) ∧ Below w.heap.size w w') (first | exact Hs6.out | exact Hs6'.out | exact Hs7.out | exact Hs8.out | exact Hs9.out) (first | (go_at_call 19; (first | refine (Ka.out _ HTa.out).mono ?_ | refine (Ka.out _ HTb.out).mono ?_); rintro e w7 ⟨rfl, hb⟩; have Hs7 := Lib.hid (by first | exact ws_later Hs6.out hb | exact ws_later Hs6'.out hb); clear hb) | (go_at_call 20; (refine (K7.out _).mono ?_); rintro e w8 ⟨rfl, hb⟩; have Hs8 := Lib.hid (ws_later Hs7.out hb); clear hb) | (go_at_call 27; (refine (K8.out _).mono ?_); rintro e w9 ⟨rfl, hb⟩; have Hs9 := Lib.hid (ws_later Hs8.out hb); clear hb) | (go_at_call 28; (with_reducible refine (Ks.out _).mono ?_); rintro e w' ⟨rfl, rfl⟩))
  go_wp2
  go_ret
  exact ⟨rfl, Hs9.out.2.2⟩
end Go.Proofs.YtbpldplbkmabmaaDoor
