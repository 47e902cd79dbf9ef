/- RateSpans' walks. Printed by gen_spans.py. -/
import Derived.Test.YtbpldplbkmabmaaDoorRtD
namespace Go.Proofs.YtbpldplbkmabmaaDoor
open Go.RowKit
set_option linter.unusedVariables false

set_option maxRecDepth 100000 in
set_option maxHeartbeats 8000000 in
theorem spans_no (T tau span : Int) (w : World) (hT : Tab w) (k1 : ∀ v, Calls Tryd.prog 23 #[limV T tau, .int .i64 span] v (TwoRes v 0 1)) :
    Calls Tryd.prog 5 #[limV T tau, .int .i64 span] w fun e w' => e = .returned (.bool true) ∧ Below w.heap.size w w' := by
  have HT := Lib.hid hT
  have Ka := Lib.hid (fun v h => awake4 v h)
  unfold TwoRes limV at *
  have K1 := Lib.hid k1
  clear k1 hT
  · skip
    go_enter Tryd.func5, Tryd.ntmps5
    go_wp2_with fail
    refine (Ka.out _ ((HT.out.later ((Below.refl _ _).alloc (Nat.le_refl _) _)))).mono ?_
    rintro e w1 ⟨rfl, hb1⟩
    have Hb1 := Lib.hid hb1
    clear hb1
    obtain ⟨hc, hf⟩ := bcell Hb1.out
    go_wp2_with fail
    refine (K1.out _).mono ?_
    rintro e w2 ⟨rfl, hb2⟩
    have Hb2 := Lib.hid (Hb1.out.trans (hb2.mono Hb1.out.size))
    clear hb2 hc hf
    obtain ⟨hc, hf⟩ := bcell Hb2.out
    go_wp2
    go_ret
    exact ⟨rfl, below_past Hb2.out⟩

set_option maxRecDepth 100000 in
set_option maxHeartbeats 16000000 in
theorem spans_yes (T tau span a z b c : Int) (w : World) (hT : Tab w) (hs : 0 ≤ span) (hs2 : span ≤ 4611686018427387903) (hT1 : 1 ≤ T) (hT2 : T ≤ 4611686018427387903)
    (k1 : ∀ v, Calls Tryd.prog 23 #[limV T tau, .int .i64 span] v (TwoRes v a 0))
    (k2 : ∀ v, Calls Tryd.prog 23 #[limV T tau, .int .i64 0] v (TwoRes v z 0))
    (k3 : ∀ v, Calls Tryd.prog 22 #[limV T tau] v (TwoRes v z 0))
    (k4 : span < 4611686018427387903 → ∀ v, Calls Tryd.prog 23 #[limV T tau, .int .i64 (span + 1)] v (TwoRes v b 0))
    (k5 : span ≤ 4611686018427387903 - T → ∀ v, Calls Tryd.prog 23 #[limV T tau, .int .i64 (span + T)] v (TwoRes v (a + 1) 0))
    (ha : z ≤ a) (hab : a ≤ b) (hba : b ≤ a + 1) (ha0 : 0 ≤ a) (ha1 : a ≤ span + 4611686018427387904) :
    Calls Tryd.prog 5 #[limV T tau, .int .i64 span] w fun e w' => e = .returned (.bool true) ∧ Below w.heap.size w w' := by
  have HT := Lib.hid hT
  have Ka := Lib.hid (fun v h => awake4 v h)
  unfold TwoRes limV at *
  have K1 := Lib.hid k1
  have K2 := Lib.hid k2
  have K3 := Lib.hid k3
  have K4' := Lib.hid k4
  have K5' := Lib.hid k5
  clear k1 k2 k3 k4 k5 hT
  by_cases h4 : span < 4611686018427387903
  · have K4 := Lib.hid (K4'.out h4)
    clear K4'
    by_cases h5 : span ≤ 4611686018427387903 - T
    · have K5 := Lib.hid (K5'.out h5)
      clear K5'
      go_enter Tryd.func5, Tryd.ntmps5
      go_wp2_with fail
      refine (Ka.out _ ((HT.out.later ((Below.refl _ _).alloc (Nat.le_refl _) _)))).mono ?_
      rintro e w1 ⟨rfl, hb1⟩
      have Hb1 := Lib.hid hb1
      clear hb1
      obtain ⟨hc, hf⟩ := bcell Hb1.out
      go_wp2_with fail
      refine (K1.out _).mono ?_
      rintro e w2 ⟨rfl, hb2⟩
      have Hb2 := Lib.hid (Hb1.out.trans (hb2.mono Hb1.out.size))
      clear hb2 hc hf
      obtain ⟨hc, hf⟩ := bcell Hb2.out
      go_wp2_with fail
      refine (K2.out _).mono ?_
      rintro e w3 ⟨rfl, hb3⟩
      have Hb3 := Lib.hid (Hb2.out.trans (hb3.mono Hb2.out.size))
      clear hb3 hc hf
      obtain ⟨hc, hf⟩ := bcell Hb3.out
      go_wp2_with fail
      refine (K3.out _).mono ?_
      rintro e w4 ⟨rfl, hb4⟩
      have Hb4 := Lib.hid (Hb3.out.trans (hb4.mono Hb3.out.size))
      clear hb4 hc hf
      obtain ⟨hc, hf⟩ := bcell Hb4.out
      go_wp2_with fail
      refine (K4.out _).mono ?_
      rintro e w5 ⟨rfl, hb5⟩
      have Hb5 := Lib.hid (Hb4.out.trans (hb5.mono Hb4.out.size))
      clear hb5 hc hf
      obtain ⟨hc, hf⟩ := bcell Hb5.out
      go_wp2_with fail
      refine (K5.out _).mono ?_
      rintro e w6 ⟨rfl, hb6⟩
      have Hb6 := Lib.hid (Hb5.out.trans (hb6.mono Hb5.out.size))
      clear hb6 hc hf
      obtain ⟨hc, hf⟩ := bcell Hb6.out
      go_wp2
      go_ret
      exact ⟨rfl, below_past Hb6.out⟩
    · clear K5'
      go_enter Tryd.func5, Tryd.ntmps5
      go_wp2_with fail
      refine (Ka.out _ ((HT.out.later ((Below.refl _ _).alloc (Nat.le_refl _) _)))).mono ?_
      rintro e w1 ⟨rfl, hb1⟩
      have Hb1 := Lib.hid hb1
      clear hb1
      obtain ⟨hc, hf⟩ := bcell Hb1.out
      go_wp2_with fail
      refine (K1.out _).mono ?_
      rintro e w2 ⟨rfl, hb2⟩
      have Hb2 := Lib.hid (Hb1.out.trans (hb2.mono Hb1.out.size))
      clear hb2 hc hf
      obtain ⟨hc, hf⟩ := bcell Hb2.out
      go_wp2_with fail
      refine (K2.out _).mono ?_
      rintro e w3 ⟨rfl, hb3⟩
      have Hb3 := Lib.hid (Hb2.out.trans (hb3.mono Hb2.out.size))
      clear hb3 hc hf
      obtain ⟨hc, hf⟩ := bcell Hb3.out
      go_wp2_with fail
      refine (K3.out _).mono ?_
      rintro e w4 ⟨rfl, hb4⟩
      have Hb4 := Lib.hid (Hb3.out.trans (hb4.mono Hb3.out.size))
      clear hb4 hc hf
      obtain ⟨hc, hf⟩ := bcell Hb4.out
      go_wp2_with fail
      refine (K4.out _).mono ?_
      rintro e w5 ⟨rfl, hb5⟩
      have Hb5 := Lib.hid (Hb4.out.trans (hb5.mono Hb4.out.size))
      clear hb5 hc hf
      obtain ⟨hc, hf⟩ := bcell Hb5.out
      go_wp2
      go_ret
      exact ⟨rfl, below_past Hb5.out⟩
  · have h5 : ¬ span ≤ 4611686018427387903 - T := by omega
    clear K4' K5'
    go_enter Tryd.func5, Tryd.ntmps5
    go_wp2_with fail
    refine (Ka.out _ ((HT.out.later ((Below.refl _ _).alloc (Nat.le_refl _) _)))).mono ?_
    rintro e w1 ⟨rfl, hb1⟩
    have Hb1 := Lib.hid hb1
    clear hb1
    obtain ⟨hc, hf⟩ := bcell Hb1.out
    go_wp2_with fail
    refine (K1.out _).mono ?_
    rintro e w2 ⟨rfl, hb2⟩
    have Hb2 := Lib.hid (Hb1.out.trans (hb2.mono Hb1.out.size))
    clear hb2 hc hf
    obtain ⟨hc, hf⟩ := bcell Hb2.out
    go_wp2_with fail
    refine (K2.out _).mono ?_
    rintro e w3 ⟨rfl, hb3⟩
    have Hb3 := Lib.hid (Hb2.out.trans (hb3.mono Hb2.out.size))
    clear hb3 hc hf
    obtain ⟨hc, hf⟩ := bcell Hb3.out
    go_wp2_with fail
    refine (K3.out _).mono ?_
    rintro e w4 ⟨rfl, hb4⟩
    have Hb4 := Lib.hid (Hb3.out.trans (hb4.mono Hb3.out.size))
    clear hb4 hc hf
    obtain ⟨hc, hf⟩ := bcell Hb4.out
    go_wp2
    go_ret
    exact ⟨rfl, below_past Hb4.out⟩
end Go.Proofs.YtbpldplbkmabmaaDoor
