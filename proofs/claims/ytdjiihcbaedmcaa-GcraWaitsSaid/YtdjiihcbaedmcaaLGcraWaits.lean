/- GcraWaits: for every input the law returns true, and its arguments read afterwards as they read before. No condition. -/
import Derived.Test.YtdjiihcbaedmcaaRows
import Derived.WalkKit
import Derived.ProofKit
import Derived.OpenShut
import Derived.Lib.SmallJoins
import Derived.Test.YtdjiihcbaedmcaaGcraM
import Derived.Test.YtdjiihcbaedmcaaGcraN
import Derived.Test.YtdjiihcbaedmcaaGcraP
namespace Go.Proofs.Ytdjiihcbaedmcaa.gcraWaits
open Go.ChangeShapes Go.WideShapes Go.ChangeAt Go.RowKit Go.Joins
set_option linter.unusedVariables false

theorem own : ownKnob Try.prog.godebug = none := by kernel_rfl

theorem cellsL : Try.prog.cellsOf 39 = 2 := by kernel_rfl

def ClRes (w : World) (T tau x y z : Int) (e : Ending) (w' : World) : Prop := e = .returned (.tuple #[limV T tau, .int .i64 x, .int .i64 y, .int .i64 z]) ∧ Below w.heap.size w w'

set_option maxHeartbeats 8000000 in
set_option maxRecDepth 100000 in
theorem core_zero (a b x y z T tau tat now : Int) (d1 d2 d3 : Int) (T0 : 0 ≤ T) (t0 : 0 ≤ tat) (t1 : tat ≤ 4611686018427387903) (w0 : 0 ≤ now) (w1 : now ≤ 4611686018427387903) (d30 : 0 ≤ d3) (d31 : d3 ≤ 4611686018427387903) (hd : d1 = tat) (w : World)
    (kc : ∀ v, Calls Try.prog 37 #[limV a b, .int .i64 x, .int .i64 y, .int .i64 z] v (ClRes v T tau tat now 0))
    (g1 : ∀ v, Calls Try.prog 38 #[limV T tau, .int .i64 d1, .int .i64 now, .int .i64 d3] v (GrRes v true true))
    (g2 : d3 < 4611686018427387903 → ∀ v, Calls Try.prog 38 #[limV T tau, .int .i64 d1, .int .i64 now, .int .i64 (d3 + 1)] v (GrRes v false true))
    (k1 : ∀ v, Calls Try.prog 33 #[limV T tau, .int .i64 tat, .int .i64 now, .int .i64 0] v (AnsTwo v true d1 0 d3 0)) :
    Calls Try.prog 10 #[limV a b, .int .i64 x, .int .i64 y, .int .i64 z] w fun e w' => e = .returned (.bool true) ∧ Below w.heap.size w w' := by
  subst hd
  have Kc := Lib.hid kc; have K1 := Lib.hid k1; have G1 := Lib.hid g1
  clear kc k1 g1
  unfold limV at *
  by_cases hl : d3 < 4611686018427387903
  · have G2 := Lib.hid (g2 hl)
    clear g2
    go_enter Try.func10, Try.ntmps10
    go_wp2_with fail
    refine (awake5 _).mono ?_
    rintro e w1 ⟨rfl, hb⟩
    obtain ⟨hc, hf⟩ := bcell hb
    have hz : w.heap.size < w1.heap.size := by have := hb.size; simp at this; omega
    have Hb := Lib.hid (below_past hb)
    clear hb
    go_wp2_with fail
    refine (Kc.out _).mono ?_
    rintro e w2 ⟨rfl, hb2⟩
    obtain ⟨hc2, hf2⟩ := bcell hb2
    have hz2 : w.heap.size < w2.heap.size := by have := hb2.size; omega
    have Hb2 : Hid (Below w.heap.size w w2) := Hb.out.trans (hb2.mono (by omega))
    clear hb2
    unfold limV
    go_wp2_with fail
    refine (K1.out _).mono ?_
    rintro e w3 ⟨rfl, hb3⟩
    obtain ⟨hc3, hf3⟩ := bcell hb3
    have hz3 : w.heap.size < w3.heap.size := by have := hb3.size; simp at this; omega
    have Hb3 : Hid (Below w.heap.size w w3) := ((Hb2.out.setCell (by simp) _).setCell (by simp) _).trans (hb3.mono (by simp; omega))
    clear hb3
    unfold ansV
    go_wp2_with fail
    refine (G1.out _).mono ?_
    rintro e w4 ⟨rfl, hb4⟩
    obtain ⟨hc4, hf4⟩ := bcell hb4
    have hz4 : w3.heap.size < w4.heap.size := by have := hb4.size; simp at this; omega
    have hz4' : w.heap.size < w4.heap.size := by omega
    have Hb4 : Hid (Below w.heap.size w w4) := Hb3.out.trans ((below_past hb4).mono (by omega))
    clear hb4
    go_wp2_with fail
    refine (G2.out _).mono ?_
    rintro e w5 ⟨rfl, hb5⟩
    obtain ⟨hc5, hf5⟩ := bcell hb5
    have hz5 : w3.heap.size < w5.heap.size := by have := hb5.size; omega
    have hz5' : w.heap.size < w5.heap.size := by omega
    have Hb5 : Hid (Below w.heap.size w w5) := Hb4.out.trans (hb5.mono (by omega))
    clear hb5
    go_wp2
    go_ret
    exact ⟨rfl, Hb5.out⟩
  · clear g2
    go_enter Try.func10, Try.ntmps10
    go_wp2_with fail
    refine (awake5 _).mono ?_
    rintro e w1 ⟨rfl, hb⟩
    obtain ⟨hc, hf⟩ := bcell hb
    have hz : w.heap.size < w1.heap.size := by have := hb.size; simp at this; omega
    have Hb := Lib.hid (below_past hb)
    clear hb
    go_wp2_with fail
    refine (Kc.out _).mono ?_
    rintro e w2 ⟨rfl, hb2⟩
    obtain ⟨hc2, hf2⟩ := bcell hb2
    have hz2 : w.heap.size < w2.heap.size := by have := hb2.size; omega
    have Hb2 : Hid (Below w.heap.size w w2) := Hb.out.trans (hb2.mono (by omega))
    clear hb2
    unfold limV
    go_wp2_with fail
    refine (K1.out _).mono ?_
    rintro e w3 ⟨rfl, hb3⟩
    obtain ⟨hc3, hf3⟩ := bcell hb3
    have hz3 : w.heap.size < w3.heap.size := by have := hb3.size; simp at this; omega
    have Hb3 : Hid (Below w.heap.size w w3) := ((Hb2.out.setCell (by simp) _).setCell (by simp) _).trans (hb3.mono (by simp; omega))
    clear hb3
    unfold ansV
    go_wp2_with fail
    refine (G1.out _).mono ?_
    rintro e w4 ⟨rfl, hb4⟩
    obtain ⟨hc4, hf4⟩ := bcell hb4
    have hz4 : w3.heap.size < w4.heap.size := by have := hb4.size; simp at this; omega
    have hz4' : w.heap.size < w4.heap.size := by omega
    have Hb4 : Hid (Below w.heap.size w w4) := Hb3.out.trans ((below_past hb4).mono (by omega))
    clear hb4
    go_wp2
    go_ret
    exact ⟨rfl, Hb4.out⟩

set_option maxHeartbeats 8000000 in
set_option maxRecDepth 100000 in
theorem core_some (a b x y z T tau tat now n : Int) (d1 d2 d3 : Int) (T0 : 0 ≤ T) (t0 : 0 ≤ tat) (t1 : tat ≤ 4611686018427387903) (w0 : 0 ≤ now) (w1 : now ≤ 4611686018427387903) (n0 : 0 ≤ n) (d30 : 0 ≤ d3) (d31 : d3 ≤ 4611686018427387903) (hz : 0 < n) (m0 : 0 ≤ n * T) (m1 : n * T ≤ 4611686018427387903) (hd : d1 = max tat now + n * T) (w : World)
    (kc : ∀ v, Calls Try.prog 37 #[limV a b, .int .i64 x, .int .i64 y, .int .i64 z] v (ClRes v T tau tat now n))
    (g1 : ∀ v, Calls Try.prog 38 #[limV T tau, .int .i64 d1, .int .i64 now, .int .i64 d3] v (GrRes v true true))
    (g2 : d3 < 4611686018427387903 → ∀ v, Calls Try.prog 38 #[limV T tau, .int .i64 d1, .int .i64 now, .int .i64 (d3 + 1)] v (GrRes v false true))
    (k1 : ∀ v, Calls Try.prog 33 #[limV T tau, .int .i64 tat, .int .i64 now, .int .i64 n] v (AnsTwo v true d1 0 d3 0)) :
    Calls Try.prog 10 #[limV a b, .int .i64 x, .int .i64 y, .int .i64 z] w fun e w' => e = .returned (.bool true) ∧ Below w.heap.size w w' := by
  have hn0 : (n == 0) = false := beq_eq_false_iff_ne.2 (by omega)
  have Kc := Lib.hid kc; have K1 := Lib.hid k1; have G1 := Lib.hid g1
  clear kc k1 g1
  by_cases hm : tat < now
  · obtain rfl : d1 = now + n * T := by omega
    clear hd
    unfold limV at *
    by_cases hl : d3 < 4611686018427387903
    · have G2 := Lib.hid (g2 hl)
      clear g2
      go_enter Try.func10, Try.ntmps10
      go_wp2_with fail
      refine (awake5 _).mono ?_
      rintro e w1 ⟨rfl, hb⟩
      obtain ⟨hc, hf⟩ := bcell hb
      have hz : w.heap.size < w1.heap.size := by have := hb.size; simp at this; omega
      have Hb := Lib.hid (below_past hb)
      clear hb
      go_wp2_with fail
      refine (Kc.out _).mono ?_
      rintro e w2 ⟨rfl, hb2⟩
      obtain ⟨hc2, hf2⟩ := bcell hb2
      have hz2 : w.heap.size < w2.heap.size := by have := hb2.size; omega
      have Hb2 : Hid (Below w.heap.size w w2) := Hb.out.trans (hb2.mono (by omega))
      clear hb2
      unfold limV
      go_wp2_with fail
      refine (K1.out _).mono ?_
      rintro e w3 ⟨rfl, hb3⟩
      obtain ⟨hc3, hf3⟩ := bcell hb3
      have hz3 : w.heap.size < w3.heap.size := by have := hb3.size; simp at this; omega
      have Hb3 : Hid (Below w.heap.size w w3) := ((Hb2.out.setCell (by simp) _).setCell (by simp) _).trans (hb3.mono (by simp; omega))
      clear hb3
      unfold ansV
      go_wp2_with fail
      refine (G1.out _).mono ?_
      rintro e w4 ⟨rfl, hb4⟩
      obtain ⟨hc4, hf4⟩ := bcell hb4
      have hz4 : w3.heap.size < w4.heap.size := by have := hb4.size; simp at this; omega
      have hz4' : w.heap.size < w4.heap.size := by omega
      have Hb4 : Hid (Below w.heap.size w w4) := Hb3.out.trans ((below_past hb4).mono (by omega))
      clear hb4
      go_wp2_with fail
      refine (G2.out _).mono ?_
      rintro e w5 ⟨rfl, hb5⟩
      obtain ⟨hc5, hf5⟩ := bcell hb5
      have hz5 : w3.heap.size < w5.heap.size := by have := hb5.size; omega
      have hz5' : w.heap.size < w5.heap.size := by omega
      have Hb5 : Hid (Below w.heap.size w w5) := Hb4.out.trans (hb5.mono (by omega))
      clear hb5
      go_wp2
      go_ret
      exact ⟨rfl, Hb5.out⟩
    · clear g2
      go_enter Try.func10, Try.ntmps10
      go_wp2_with fail
      refine (awake5 _).mono ?_
      rintro e w1 ⟨rfl, hb⟩
      obtain ⟨hc, hf⟩ := bcell hb
      have hz : w.heap.size < w1.heap.size := by have := hb.size; simp at this; omega
      have Hb := Lib.hid (below_past hb)
      clear hb
      go_wp2_with fail
      refine (Kc.out _).mono ?_
      rintro e w2 ⟨rfl, hb2⟩
      obtain ⟨hc2, hf2⟩ := bcell hb2
      have hz2 : w.heap.size < w2.heap.size := by have := hb2.size; omega
      have Hb2 : Hid (Below w.heap.size w w2) := Hb.out.trans (hb2.mono (by omega))
      clear hb2
      unfold limV
      go_wp2_with fail
      refine (K1.out _).mono ?_
      rintro e w3 ⟨rfl, hb3⟩
      obtain ⟨hc3, hf3⟩ := bcell hb3
      have hz3 : w.heap.size < w3.heap.size := by have := hb3.size; simp at this; omega
      have Hb3 : Hid (Below w.heap.size w w3) := ((Hb2.out.setCell (by simp) _).setCell (by simp) _).trans (hb3.mono (by simp; omega))
      clear hb3
      unfold ansV
      go_wp2_with fail
      refine (G1.out _).mono ?_
      rintro e w4 ⟨rfl, hb4⟩
      obtain ⟨hc4, hf4⟩ := bcell hb4
      have hz4 : w3.heap.size < w4.heap.size := by have := hb4.size; simp at this; omega
      have hz4' : w.heap.size < w4.heap.size := by omega
      have Hb4 : Hid (Below w.heap.size w w4) := Hb3.out.trans ((below_past hb4).mono (by omega))
      clear hb4
      go_wp2
      go_ret
      exact ⟨rfl, Hb4.out⟩
  · obtain rfl : d1 = tat + n * T := by omega
    clear hd
    unfold limV at *
    by_cases hl : d3 < 4611686018427387903
    · have G2 := Lib.hid (g2 hl)
      clear g2
      go_enter Try.func10, Try.ntmps10
      go_wp2_with fail
      refine (awake5 _).mono ?_
      rintro e w1 ⟨rfl, hb⟩
      obtain ⟨hc, hf⟩ := bcell hb
      have hz : w.heap.size < w1.heap.size := by have := hb.size; simp at this; omega
      have Hb := Lib.hid (below_past hb)
      clear hb
      go_wp2_with fail
      refine (Kc.out _).mono ?_
      rintro e w2 ⟨rfl, hb2⟩
      obtain ⟨hc2, hf2⟩ := bcell hb2
      have hz2 : w.heap.size < w2.heap.size := by have := hb2.size; omega
      have Hb2 : Hid (Below w.heap.size w w2) := Hb.out.trans (hb2.mono (by omega))
      clear hb2
      unfold limV
      go_wp2_with fail
      refine (K1.out _).mono ?_
      rintro e w3 ⟨rfl, hb3⟩
      obtain ⟨hc3, hf3⟩ := bcell hb3
      have hz3 : w.heap.size < w3.heap.size := by have := hb3.size; simp at this; omega
      have Hb3 : Hid (Below w.heap.size w w3) := ((Hb2.out.setCell (by simp) _).setCell (by simp) _).trans (hb3.mono (by simp; omega))
      clear hb3
      unfold ansV
      go_wp2_with fail
      refine (G1.out _).mono ?_
      rintro e w4 ⟨rfl, hb4⟩
      obtain ⟨hc4, hf4⟩ := bcell hb4
      have hz4 : w3.heap.size < w4.heap.size := by have := hb4.size; simp at this; omega
      have hz4' : w.heap.size < w4.heap.size := by omega
      have Hb4 : Hid (Below w.heap.size w w4) := Hb3.out.trans ((below_past hb4).mono (by omega))
      clear hb4
      go_wp2_with fail
      refine (G2.out _).mono ?_
      rintro e w5 ⟨rfl, hb5⟩
      obtain ⟨hc5, hf5⟩ := bcell hb5
      have hz5 : w3.heap.size < w5.heap.size := by have := hb5.size; omega
      have hz5' : w.heap.size < w5.heap.size := by omega
      have Hb5 : Hid (Below w.heap.size w w5) := Hb4.out.trans (hb5.mono (by omega))
      clear hb5
      go_wp2
      go_ret
      exact ⟨rfl, Hb5.out⟩
    · clear g2
      go_enter Try.func10, Try.ntmps10
      go_wp2_with fail
      refine (awake5 _).mono ?_
      rintro e w1 ⟨rfl, hb⟩
      obtain ⟨hc, hf⟩ := bcell hb
      have hz : w.heap.size < w1.heap.size := by have := hb.size; simp at this; omega
      have Hb := Lib.hid (below_past hb)
      clear hb
      go_wp2_with fail
      refine (Kc.out _).mono ?_
      rintro e w2 ⟨rfl, hb2⟩
      obtain ⟨hc2, hf2⟩ := bcell hb2
      have hz2 : w.heap.size < w2.heap.size := by have := hb2.size; omega
      have Hb2 : Hid (Below w.heap.size w w2) := Hb.out.trans (hb2.mono (by omega))
      clear hb2
      unfold limV
      go_wp2_with fail
      refine (K1.out _).mono ?_
      rintro e w3 ⟨rfl, hb3⟩
      obtain ⟨hc3, hf3⟩ := bcell hb3
      have hz3 : w.heap.size < w3.heap.size := by have := hb3.size; simp at this; omega
      have Hb3 : Hid (Below w.heap.size w w3) := ((Hb2.out.setCell (by simp) _).setCell (by simp) _).trans (hb3.mono (by simp; omega))
      clear hb3
      unfold ansV
      go_wp2_with fail
      refine (G1.out _).mono ?_
      rintro e w4 ⟨rfl, hb4⟩
      obtain ⟨hc4, hf4⟩ := bcell hb4
      have hz4 : w3.heap.size < w4.heap.size := by have := hb4.size; simp at this; omega
      have hz4' : w.heap.size < w4.heap.size := by omega
      have Hb4 : Hid (Below w.heap.size w w4) := Hb3.out.trans ((below_past hb4).mono (by omega))
      clear hb4
      go_wp2
      go_ret
      exact ⟨rfl, Hb4.out⟩

set_option maxHeartbeats 8000000 in
set_option maxRecDepth 100000 in
theorem core_wait (a b x y z T tau tat now n : Int) (d1 d2 d3 : Int) (T0 : 0 ≤ T) (t0 : 0 ≤ tat) (t1 : tat ≤ 4611686018427387903) (w0 : 0 ≤ now) (w1 : now ≤ 4611686018427387903) (n0 : 0 ≤ n) (d30 : 0 ≤ d3) (d31 : d3 ≤ 4611686018427387903) (hd : d1 = tat) (x0 : 0 < d2) (x1 : d2 < 4611686018427387903) (x2 : d2 ≤ 4611686018427387903 - now) (w : World)
    (kc : ∀ v, Calls Try.prog 37 #[limV a b, .int .i64 x, .int .i64 y, .int .i64 z] v (ClRes v T tau tat now n))
    (g1 : ∀ v, Calls Try.prog 38 #[limV T tau, .int .i64 d1, .int .i64 now, .int .i64 d3] v (GrRes v true true))
    (g2 : d3 < 4611686018427387903 → ∀ v, Calls Try.prog 38 #[limV T tau, .int .i64 d1, .int .i64 now, .int .i64 (d3 + 1)] v (GrRes v false true))
    (g3 : ∀ v, Calls Try.prog 38 #[limV T tau, .int .i64 tat, .int .i64 (now + d2), .int .i64 n] v (GrRes v true true))
    (g4 : ∀ v, Calls Try.prog 38 #[limV T tau, .int .i64 tat, .int .i64 (now + d2 - 1), .int .i64 n] v (GrRes v false true))
    (k1 : ∀ v, Calls Try.prog 33 #[limV T tau, .int .i64 tat, .int .i64 now, .int .i64 n] v (AnsTwo v false d1 d2 d3 0)) :
    Calls Try.prog 10 #[limV a b, .int .i64 x, .int .i64 y, .int .i64 z] w fun e w' => e = .returned (.bool true) ∧ Below w.heap.size w w' := by
  subst hd
  have hd0 : (d2 == 0) = false := beq_eq_false_iff_ne.2 (by omega)
  have hdm : (d2 == 4611686018427387903) = false := beq_eq_false_iff_ne.2 (by omega)
  have Kc := Lib.hid kc; have K1 := Lib.hid k1; have G1 := Lib.hid g1; have G3 := Lib.hid g3; have G4 := Lib.hid g4
  clear kc k1 g1 g3 g4
  unfold limV at *
  by_cases hl : d3 < 4611686018427387903
  · have G2 := Lib.hid (g2 hl)
    clear g2
    go_enter Try.func10, Try.ntmps10
    go_wp2_with fail
    refine (awake5 _).mono ?_
    rintro e w1 ⟨rfl, hb⟩
    obtain ⟨hc, hf⟩ := bcell hb
    have hz : w.heap.size < w1.heap.size := by have := hb.size; simp at this; omega
    have Hb := Lib.hid (below_past hb)
    clear hb
    go_wp2_with fail
    refine (Kc.out _).mono ?_
    rintro e w2 ⟨rfl, hb2⟩
    obtain ⟨hc2, hf2⟩ := bcell hb2
    have hz2 : w.heap.size < w2.heap.size := by have := hb2.size; omega
    have Hb2 : Hid (Below w.heap.size w w2) := Hb.out.trans (hb2.mono (by omega))
    clear hb2
    unfold limV
    go_wp2_with fail
    refine (K1.out _).mono ?_
    rintro e w3 ⟨rfl, hb3⟩
    obtain ⟨hc3, hf3⟩ := bcell hb3
    have hz3 : w.heap.size < w3.heap.size := by have := hb3.size; simp at this; omega
    have Hb3 : Hid (Below w.heap.size w w3) := ((Hb2.out.setCell (by simp) _).setCell (by simp) _).trans (hb3.mono (by simp; omega))
    clear hb3
    unfold ansV
    go_wp2_with fail
    refine (G1.out _).mono ?_
    rintro e w4 ⟨rfl, hb4⟩
    obtain ⟨hc4, hf4⟩ := bcell hb4
    have hz4 : w3.heap.size < w4.heap.size := by have := hb4.size; simp at this; omega
    have hz4' : w.heap.size < w4.heap.size := by omega
    have Hb4 : Hid (Below w.heap.size w w4) := Hb3.out.trans ((below_past hb4).mono (by omega))
    clear hb4
    go_wp2_with fail
    refine (G2.out _).mono ?_
    rintro e w5 ⟨rfl, hb5⟩
    obtain ⟨hc5, hf5⟩ := bcell hb5
    have hz5 : w3.heap.size < w5.heap.size := by have := hb5.size; omega
    have hz5' : w.heap.size < w5.heap.size := by omega
    have Hb5 : Hid (Below w.heap.size w w5) := Hb4.out.trans (hb5.mono (by omega))
    clear hb5
    go_wp2_with fail
    refine (G3.out _).mono ?_
    rintro e w6 ⟨rfl, hb6⟩
    obtain ⟨hc6, hf6⟩ := bcell hb6
    have hz6 : w3.heap.size < w6.heap.size := by have := hb6.size; omega
    have hz6' : w.heap.size < w6.heap.size := by omega
    have Hb6 : Hid (Below w.heap.size w w6) := Hb5.out.trans (hb6.mono (by omega))
    clear hb6
    go_wp2_with fail
    refine (G4.out _).mono ?_
    rintro e w7 ⟨rfl, hb7⟩
    obtain ⟨hc7, hf7⟩ := bcell hb7
    have hz7 : w3.heap.size < w7.heap.size := by have := hb7.size; omega
    have hz7' : w.heap.size < w7.heap.size := by omega
    have Hb7 : Hid (Below w.heap.size w w7) := Hb6.out.trans (hb7.mono (by omega))
    clear hb7
    go_wp2
    go_ret
    exact ⟨rfl, Hb7.out⟩
  · clear g2
    go_enter Try.func10, Try.ntmps10
    go_wp2_with fail
    refine (awake5 _).mono ?_
    rintro e w1 ⟨rfl, hb⟩
    obtain ⟨hc, hf⟩ := bcell hb
    have hz : w.heap.size < w1.heap.size := by have := hb.size; simp at this; omega
    have Hb := Lib.hid (below_past hb)
    clear hb
    go_wp2_with fail
    refine (Kc.out _).mono ?_
    rintro e w2 ⟨rfl, hb2⟩
    obtain ⟨hc2, hf2⟩ := bcell hb2
    have hz2 : w.heap.size < w2.heap.size := by have := hb2.size; omega
    have Hb2 : Hid (Below w.heap.size w w2) := Hb.out.trans (hb2.mono (by omega))
    clear hb2
    unfold limV
    go_wp2_with fail
    refine (K1.out _).mono ?_
    rintro e w3 ⟨rfl, hb3⟩
    obtain ⟨hc3, hf3⟩ := bcell hb3
    have hz3 : w.heap.size < w3.heap.size := by have := hb3.size; simp at this; omega
    have Hb3 : Hid (Below w.heap.size w w3) := ((Hb2.out.setCell (by simp) _).setCell (by simp) _).trans (hb3.mono (by simp; omega))
    clear hb3
    unfold ansV
    go_wp2_with fail
    refine (G1.out _).mono ?_
    rintro e w4 ⟨rfl, hb4⟩
    obtain ⟨hc4, hf4⟩ := bcell hb4
    have hz4 : w3.heap.size < w4.heap.size := by have := hb4.size; simp at this; omega
    have hz4' : w.heap.size < w4.heap.size := by omega
    have Hb4 : Hid (Below w.heap.size w w4) := Hb3.out.trans ((below_past hb4).mono (by omega))
    clear hb4
    go_wp2_with fail
    refine (G3.out _).mono ?_
    rintro e w6 ⟨rfl, hb6⟩
    obtain ⟨hc6, hf6⟩ := bcell hb6
    have hz6 : w3.heap.size < w6.heap.size := by have := hb6.size; omega
    have hz6' : w.heap.size < w6.heap.size := by omega
    have Hb6 : Hid (Below w.heap.size w w6) := Hb4.out.trans (hb6.mono (by omega))
    clear hb6
    go_wp2_with fail
    refine (G4.out _).mono ?_
    rintro e w7 ⟨rfl, hb7⟩
    obtain ⟨hc7, hf7⟩ := bcell hb7
    have hz7 : w3.heap.size < w7.heap.size := by have := hb7.size; omega
    have hz7' : w.heap.size < w7.heap.size := by omega
    have Hb7 : Hid (Below w.heap.size w w7) := Hb6.out.trans (hb7.mono (by omega))
    clear hb7
    go_wp2
    go_ret
    exact ⟨rfl, Hb7.out⟩

set_option maxHeartbeats 8000000 in
set_option maxRecDepth 100000 in
theorem core_never (a b x y z T tau tat now n : Int) (d1 d2 d3 : Int) (T0 : 0 ≤ T) (t0 : 0 ≤ tat) (t1 : tat ≤ 4611686018427387903) (w0 : 0 ≤ now) (w1 : now ≤ 4611686018427387903) (n0 : 0 ≤ n) (d30 : 0 ≤ d3) (d31 : d3 ≤ 4611686018427387903) (hd : d1 = tat) (w : World)
    (kc : ∀ v, Calls Try.prog 37 #[limV a b, .int .i64 x, .int .i64 y, .int .i64 z] v (ClRes v T tau tat now n))
    (g1 : ∀ v, Calls Try.prog 38 #[limV T tau, .int .i64 d1, .int .i64 now, .int .i64 d3] v (GrRes v true true))
    (g2 : d3 < 4611686018427387903 → ∀ v, Calls Try.prog 38 #[limV T tau, .int .i64 d1, .int .i64 now, .int .i64 (d3 + 1)] v (GrRes v false true))
    (g5 : ∀ v, Calls Try.prog 38 #[limV T tau, .int .i64 tat, .int .i64 now, .int .i64 n] v (GrRes v false true))
    (g6 : ∀ v, Calls Try.prog 38 #[limV T tau, .int .i64 tat, .int .i64 (max now tat), .int .i64 n] v (GrRes v false true))
    (g7 : ∀ v, Calls Try.prog 38 #[limV T tau, .int .i64 tat, .int .i64 4611686018427387903, .int .i64 n] v (GrRes v false true))
    (k1 : ∀ v, Calls Try.prog 33 #[limV T tau, .int .i64 tat, .int .i64 now, .int .i64 n] v (AnsTwo v false d1 4611686018427387903 d3 0)) :
    Calls Try.prog 10 #[limV a b, .int .i64 x, .int .i64 y, .int .i64 z] w fun e w' => e = .returned (.bool true) ∧ Below w.heap.size w w' := by
  subst hd
  have Kc := Lib.hid kc; have K1 := Lib.hid k1; have G1 := Lib.hid g1; have G5 := Lib.hid g5; have G7 := Lib.hid g7
  clear kc k1 g1 g5 g7
  by_cases hm : now < d1
  · have hmx : max now d1 = d1 := by omega
    rw [hmx] at g6
    have G6 := Lib.hid g6
    clear hmx g6
    unfold limV at *
    by_cases hl : d3 < 4611686018427387903
    · have G2 := Lib.hid (g2 hl)
      clear g2
      go_enter Try.func10, Try.ntmps10
      go_wp2_with fail
      refine (awake5 _).mono ?_
      rintro e w1 ⟨rfl, hb⟩
      obtain ⟨hc, hf⟩ := bcell hb
      have hz : w.heap.size < w1.heap.size := by have := hb.size; simp at this; omega
      have Hb := Lib.hid (below_past hb)
      clear hb
      go_wp2_with fail
      refine (Kc.out _).mono ?_
      rintro e w2 ⟨rfl, hb2⟩
      obtain ⟨hc2, hf2⟩ := bcell hb2
      have hz2 : w.heap.size < w2.heap.size := by have := hb2.size; omega
      have Hb2 : Hid (Below w.heap.size w w2) := Hb.out.trans (hb2.mono (by omega))
      clear hb2
      unfold limV
      go_wp2_with fail
      refine (K1.out _).mono ?_
      rintro e w3 ⟨rfl, hb3⟩
      obtain ⟨hc3, hf3⟩ := bcell hb3
      have hz3 : w.heap.size < w3.heap.size := by have := hb3.size; simp at this; omega
      have Hb3 : Hid (Below w.heap.size w w3) := ((Hb2.out.setCell (by simp) _).setCell (by simp) _).trans (hb3.mono (by simp; omega))
      clear hb3
      unfold ansV
      go_wp2_with fail
      refine (G1.out _).mono ?_
      rintro e w4 ⟨rfl, hb4⟩
      obtain ⟨hc4, hf4⟩ := bcell hb4
      have hz4 : w3.heap.size < w4.heap.size := by have := hb4.size; simp at this; omega
      have hz4' : w.heap.size < w4.heap.size := by omega
      have Hb4 : Hid (Below w.heap.size w w4) := Hb3.out.trans ((below_past hb4).mono (by omega))
      clear hb4
      go_wp2_with fail
      refine (G2.out _).mono ?_
      rintro e w5 ⟨rfl, hb5⟩
      obtain ⟨hc5, hf5⟩ := bcell hb5
      have hz5 : w3.heap.size < w5.heap.size := by have := hb5.size; omega
      have hz5' : w.heap.size < w5.heap.size := by omega
      have Hb5 : Hid (Below w.heap.size w w5) := Hb4.out.trans (hb5.mono (by omega))
      clear hb5
      go_wp2_with fail
      refine wp_loop_rounds 4 ?_
      rw [rounds_succ]
      go_wp2_with fail
      refine (G5.out _).mono ?_
      rintro e w6 ⟨rfl, hb6⟩
      obtain ⟨hc6, hf6⟩ := bcell hb6
      have hza6 : w5.heap.size < w6.heap.size := by have := hb6.size; simp at this; omega
      have hz6 : w3.heap.size < w6.heap.size := by omega
      have hz6' : w.heap.size < w6.heap.size := by omega
      have Hb6 : Hid (Below w.heap.size w w6) := Hb5.out.trans ((below_past hb6).mono (by omega))
      clear hb6
      go_wp2_with fail
      rw [rounds_succ]
      go_wp2_with fail
      refine (G6.out _).mono ?_
      rintro e w7 ⟨rfl, hb7⟩
      obtain ⟨hc7, hf7⟩ := bcell hb7
      have hza7 : w5.heap.size < w7.heap.size := by have := hb7.size; omega
      have hz7 : w3.heap.size < w7.heap.size := by have := hb7.size; omega
      have hz7' : w.heap.size < w7.heap.size := by omega
      have Hb7 : Hid (Below w.heap.size w w7) := Hb6.out.trans (hb7.mono (by omega))
      clear hb7
      go_wp2_with fail
      rw [rounds_succ]
      go_wp2_with fail
      refine (G7.out _).mono ?_
      rintro e w8 ⟨rfl, hb8⟩
      obtain ⟨hc8, hf8⟩ := bcell hb8
      have hz8 : w3.heap.size < w8.heap.size := by have := hb8.size; omega
      have hz8' : w.heap.size < w8.heap.size := by omega
      have Hb8 : Hid (Below w.heap.size w w8) := Hb7.out.trans (hb8.mono (by omega))
      clear hb8
      go_wp2_with fail
      rw [rounds_succ]
      go_wp2
      go_ret
      exact ⟨rfl, Hb8.out⟩
    · clear g2
      go_enter Try.func10, Try.ntmps10
      go_wp2_with fail
      refine (awake5 _).mono ?_
      rintro e w1 ⟨rfl, hb⟩
      obtain ⟨hc, hf⟩ := bcell hb
      have hz : w.heap.size < w1.heap.size := by have := hb.size; simp at this; omega
      have Hb := Lib.hid (below_past hb)
      clear hb
      go_wp2_with fail
      refine (Kc.out _).mono ?_
      rintro e w2 ⟨rfl, hb2⟩
      obtain ⟨hc2, hf2⟩ := bcell hb2
      have hz2 : w.heap.size < w2.heap.size := by have := hb2.size; omega
      have Hb2 : Hid (Below w.heap.size w w2) := Hb.out.trans (hb2.mono (by omega))
      clear hb2
      unfold limV
      go_wp2_with fail
      refine (K1.out _).mono ?_
      rintro e w3 ⟨rfl, hb3⟩
      obtain ⟨hc3, hf3⟩ := bcell hb3
      have hz3 : w.heap.size < w3.heap.size := by have := hb3.size; simp at this; omega
      have Hb3 : Hid (Below w.heap.size w w3) := ((Hb2.out.setCell (by simp) _).setCell (by simp) _).trans (hb3.mono (by simp; omega))
      clear hb3
      unfold ansV
      go_wp2_with fail
      refine (G1.out _).mono ?_
      rintro e w4 ⟨rfl, hb4⟩
      obtain ⟨hc4, hf4⟩ := bcell hb4
      have hz4 : w3.heap.size < w4.heap.size := by have := hb4.size; simp at this; omega
      have hz4' : w.heap.size < w4.heap.size := by omega
      have Hb4 : Hid (Below w.heap.size w w4) := Hb3.out.trans ((below_past hb4).mono (by omega))
      clear hb4
      go_wp2_with fail
      refine wp_loop_rounds 4 ?_
      rw [rounds_succ]
      go_wp2_with fail
      refine (G5.out _).mono ?_
      rintro e w6 ⟨rfl, hb6⟩
      obtain ⟨hc6, hf6⟩ := bcell hb6
      have hza6 : w4.heap.size < w6.heap.size := by have := hb6.size; simp at this; omega
      have hz6 : w3.heap.size < w6.heap.size := by omega
      have hz6' : w.heap.size < w6.heap.size := by omega
      have Hb6 : Hid (Below w.heap.size w w6) := Hb4.out.trans ((below_past hb6).mono (by omega))
      clear hb6
      go_wp2_with fail
      rw [rounds_succ]
      go_wp2_with fail
      refine (G6.out _).mono ?_
      rintro e w7 ⟨rfl, hb7⟩
      obtain ⟨hc7, hf7⟩ := bcell hb7
      have hza7 : w4.heap.size < w7.heap.size := by have := hb7.size; omega
      have hz7 : w3.heap.size < w7.heap.size := by have := hb7.size; omega
      have hz7' : w.heap.size < w7.heap.size := by omega
      have Hb7 : Hid (Below w.heap.size w w7) := Hb6.out.trans (hb7.mono (by omega))
      clear hb7
      go_wp2_with fail
      rw [rounds_succ]
      go_wp2_with fail
      refine (G7.out _).mono ?_
      rintro e w8 ⟨rfl, hb8⟩
      obtain ⟨hc8, hf8⟩ := bcell hb8
      have hz8 : w3.heap.size < w8.heap.size := by have := hb8.size; omega
      have hz8' : w.heap.size < w8.heap.size := by omega
      have Hb8 : Hid (Below w.heap.size w w8) := Hb7.out.trans (hb8.mono (by omega))
      clear hb8
      go_wp2_with fail
      rw [rounds_succ]
      go_wp2
      go_ret
      exact ⟨rfl, Hb8.out⟩
  · have hmx : max now d1 = now := by omega
    rw [hmx] at g6
    have G6 := Lib.hid g6
    clear hmx g6
    unfold limV at *
    by_cases hl : d3 < 4611686018427387903
    · have G2 := Lib.hid (g2 hl)
      clear g2
      go_enter Try.func10, Try.ntmps10
      go_wp2_with fail
      refine (awake5 _).mono ?_
      rintro e w1 ⟨rfl, hb⟩
      obtain ⟨hc, hf⟩ := bcell hb
      have hz : w.heap.size < w1.heap.size := by have := hb.size; simp at this; omega
      have Hb := Lib.hid (below_past hb)
      clear hb
      go_wp2_with fail
      refine (Kc.out _).mono ?_
      rintro e w2 ⟨rfl, hb2⟩
      obtain ⟨hc2, hf2⟩ := bcell hb2
      have hz2 : w.heap.size < w2.heap.size := by have := hb2.size; omega
      have Hb2 : Hid (Below w.heap.size w w2) := Hb.out.trans (hb2.mono (by omega))
      clear hb2
      unfold limV
      go_wp2_with fail
      refine (K1.out _).mono ?_
      rintro e w3 ⟨rfl, hb3⟩
      obtain ⟨hc3, hf3⟩ := bcell hb3
      have hz3 : w.heap.size < w3.heap.size := by have := hb3.size; simp at this; omega
      have Hb3 : Hid (Below w.heap.size w w3) := ((Hb2.out.setCell (by simp) _).setCell (by simp) _).trans (hb3.mono (by simp; omega))
      clear hb3
      unfold ansV
      go_wp2_with fail
      refine (G1.out _).mono ?_
      rintro e w4 ⟨rfl, hb4⟩
      obtain ⟨hc4, hf4⟩ := bcell hb4
      have hz4 : w3.heap.size < w4.heap.size := by have := hb4.size; simp at this; omega
      have hz4' : w.heap.size < w4.heap.size := by omega
      have Hb4 : Hid (Below w.heap.size w w4) := Hb3.out.trans ((below_past hb4).mono (by omega))
      clear hb4
      go_wp2_with fail
      refine (G2.out _).mono ?_
      rintro e w5 ⟨rfl, hb5⟩
      obtain ⟨hc5, hf5⟩ := bcell hb5
      have hz5 : w3.heap.size < w5.heap.size := by have := hb5.size; omega
      have hz5' : w.heap.size < w5.heap.size := by omega
      have Hb5 : Hid (Below w.heap.size w w5) := Hb4.out.trans (hb5.mono (by omega))
      clear hb5
      go_wp2_with fail
      refine wp_loop_rounds 4 ?_
      rw [rounds_succ]
      go_wp2_with fail
      refine (G5.out _).mono ?_
      rintro e w6 ⟨rfl, hb6⟩
      obtain ⟨hc6, hf6⟩ := bcell hb6
      have hza6 : w5.heap.size < w6.heap.size := by have := hb6.size; simp at this; omega
      have hz6 : w3.heap.size < w6.heap.size := by omega
      have hz6' : w.heap.size < w6.heap.size := by omega
      have Hb6 : Hid (Below w.heap.size w w6) := Hb5.out.trans ((below_past hb6).mono (by omega))
      clear hb6
      go_wp2_with fail
      rw [rounds_succ]
      go_wp2_with fail
      refine (G6.out _).mono ?_
      rintro e w7 ⟨rfl, hb7⟩
      obtain ⟨hc7, hf7⟩ := bcell hb7
      have hza7 : w5.heap.size < w7.heap.size := by have := hb7.size; omega
      have hz7 : w3.heap.size < w7.heap.size := by have := hb7.size; omega
      have hz7' : w.heap.size < w7.heap.size := by omega
      have Hb7 : Hid (Below w.heap.size w w7) := Hb6.out.trans (hb7.mono (by omega))
      clear hb7
      go_wp2_with fail
      rw [rounds_succ]
      go_wp2_with fail
      refine (G7.out _).mono ?_
      rintro e w8 ⟨rfl, hb8⟩
      obtain ⟨hc8, hf8⟩ := bcell hb8
      have hz8 : w3.heap.size < w8.heap.size := by have := hb8.size; omega
      have hz8' : w.heap.size < w8.heap.size := by omega
      have Hb8 : Hid (Below w.heap.size w w8) := Hb7.out.trans (hb8.mono (by omega))
      clear hb8
      go_wp2_with fail
      rw [rounds_succ]
      go_wp2
      go_ret
      exact ⟨rfl, Hb8.out⟩
    · clear g2
      go_enter Try.func10, Try.ntmps10
      go_wp2_with fail
      refine (awake5 _).mono ?_
      rintro e w1 ⟨rfl, hb⟩
      obtain ⟨hc, hf⟩ := bcell hb
      have hz : w.heap.size < w1.heap.size := by have := hb.size; simp at this; omega
      have Hb := Lib.hid (below_past hb)
      clear hb
      go_wp2_with fail
      refine (Kc.out _).mono ?_
      rintro e w2 ⟨rfl, hb2⟩
      obtain ⟨hc2, hf2⟩ := bcell hb2
      have hz2 : w.heap.size < w2.heap.size := by have := hb2.size; omega
      have Hb2 : Hid (Below w.heap.size w w2) := Hb.out.trans (hb2.mono (by omega))
      clear hb2
      unfold limV
      go_wp2_with fail
      refine (K1.out _).mono ?_
      rintro e w3 ⟨rfl, hb3⟩
      obtain ⟨hc3, hf3⟩ := bcell hb3
      have hz3 : w.heap.size < w3.heap.size := by have := hb3.size; simp at this; omega
      have Hb3 : Hid (Below w.heap.size w w3) := ((Hb2.out.setCell (by simp) _).setCell (by simp) _).trans (hb3.mono (by simp; omega))
      clear hb3
      unfold ansV
      go_wp2_with fail
      refine (G1.out _).mono ?_
      rintro e w4 ⟨rfl, hb4⟩
      obtain ⟨hc4, hf4⟩ := bcell hb4
      have hz4 : w3.heap.size < w4.heap.size := by have := hb4.size; simp at this; omega
      have hz4' : w.heap.size < w4.heap.size := by omega
      have Hb4 : Hid (Below w.heap.size w w4) := Hb3.out.trans ((below_past hb4).mono (by omega))
      clear hb4
      go_wp2_with fail
      refine wp_loop_rounds 4 ?_
      rw [rounds_succ]
      go_wp2_with fail
      refine (G5.out _).mono ?_
      rintro e w6 ⟨rfl, hb6⟩
      obtain ⟨hc6, hf6⟩ := bcell hb6
      have hza6 : w4.heap.size < w6.heap.size := by have := hb6.size; simp at this; omega
      have hz6 : w3.heap.size < w6.heap.size := by omega
      have hz6' : w.heap.size < w6.heap.size := by omega
      have Hb6 : Hid (Below w.heap.size w w6) := Hb4.out.trans ((below_past hb6).mono (by omega))
      clear hb6
      go_wp2_with fail
      rw [rounds_succ]
      go_wp2_with fail
      refine (G6.out _).mono ?_
      rintro e w7 ⟨rfl, hb7⟩
      obtain ⟨hc7, hf7⟩ := bcell hb7
      have hza7 : w4.heap.size < w7.heap.size := by have := hb7.size; omega
      have hz7 : w3.heap.size < w7.heap.size := by have := hb7.size; omega
      have hz7' : w.heap.size < w7.heap.size := by omega
      have Hb7 : Hid (Below w.heap.size w w7) := Hb6.out.trans (hb7.mono (by omega))
      clear hb7
      go_wp2_with fail
      rw [rounds_succ]
      go_wp2_with fail
      refine (G7.out _).mono ?_
      rintro e w8 ⟨rfl, hb8⟩
      obtain ⟨hc8, hf8⟩ := bcell hb8
      have hz8 : w3.heap.size < w8.heap.size := by have := hb8.size; omega
      have hz8' : w.heap.size < w8.heap.size := by omega
      have Hb8 : Hid (Below w.heap.size w w8) := Hb7.out.trans (hb8.mono (by omega))
      clear hb8
      go_wp2_with fail
      rw [rounds_succ]
      go_wp2
      go_ret
      exact ⟨rfl, Hb8.out⟩

theorem walk (a b x y z : Int) (ha : (Lit.int .i64 a).wf = true) (hb : (Lit.int .i64 b).wf = true) (hx : (Lit.int .i64 x).wf = true) (hy : (Lit.int .i64 y).wf = true) (hz : (Lit.int .i64 z).wf = true) (w : World) :
    Calls Try.prog 10 #[.agg #[.int .i64 a, .int .i64 b], .int .i64 x, .int .i64 y, .int .i64 z] w fun e w' => e = .returned (.bool true) ∧ Below w.heap.size w w' := by
  have h1 := clampI_tick a
  have hl : limB (max (clampI a) 1) (clampI b) = true := by
    have ht : tickB (max (clampI a) 1) = true := tickB_mk (by omega) (by omega)
    have h1 : decide (1 ≤ max (clampI a) 1) = true := decide_eq_true (by omega)
    unfold limB
    rw [ht, h1, tickB_clamp]
    rfl
  have kc := fun v => clamped_any a b x y z v (bounds_i64 ha).2 (bounds_i64 hb).2 (bounds_i64 hx).2 (bounds_i64 hy).2 (bounds_i64 hz).2
  have tx := tickB_clamp x; have ty := tickB_clamp y; have tz := tickB_clamp z
  unfold ClampedRes at kc
  generalize max (clampI a) 1 = T at *
  generalize clampI b = tau at *
  generalize clampI x = tat at *
  generalize clampI y = now at *
  generalize clampI z = n at *
  have T0 := (limB_yes hl).2.1
  have bt := tickB_yes tx; have bw := tickB_yes ty; have bn := tickB_yes tz
  have hdt := dec_tick hl tx ty tz
  have hL := leftI_nonneg hl hdt ty
  have tL : tickB (decLeft T tau tat now n) = true := tickB_mk hL.1 hL.2
  obtain ⟨wy, wn⟩ := waits_law hl tx ty tz
  have g1 : ∀ v, Calls Try.prog 38 #[limV T tau, .int .i64 (decTat T tau tat now n), .int .i64 now, .int .i64 (decLeft T tau tat now n)] v (GrRes v true true) := fun v => by
    have := granted_yes T tau (decTat T tau tat now n) now (decLeft T tau tat now n) v hl hdt ty tL
    rwa [show decG T tau (decTat T tau tat now n) now (decLeft T tau tat now n) = true from decide_eq_true (Int.le_refl _)] at this
  have g2 : decLeft T tau tat now n < 4611686018427387903 → ∀ v, Calls Try.prog 38 #[limV T tau, .int .i64 (decTat T tau tat now n), .int .i64 now, .int .i64 (decLeft T tau tat now n + 1)] v (GrRes v false true) := fun hlt v => by
    have := granted_yes T tau (decTat T tau tat now n) now (decLeft T tau tat now n + 1) v hl hdt ty (tickB_mk (by have := tickB_yes tL; omega) (by omega))
    rwa [show decG T tau (decTat T tau tat now n) now (decLeft T tau tat now n + 1) = false from decide_eq_false (by have : leftI T tau (decTat T tau tat now n) now = decLeft T tau tat now n := rfl; omega)] at this
  have k1 := fun v => gDecide_yes T tau tat now n v hl tx ty tz
  have d30 := (tickB_yes tL).1; have d31 := (tickB_yes tL).2
  have tv : decTat T tau tat now n = if n ≤ leftI T tau tat now ∧ 0 < n then max tat now + n * T else tat := rfl
  cases hg : decG T tau tat now n with
  | true =>
    rw [hg, wy hg] at k1
    have hgl : n ≤ leftI T tau tat now := of_decide_eq_true hg
    by_cases hz0 : 0 < n
    · rw [if_pos ⟨hgl, hz0⟩] at tv
      have gp := (left_grant hl tx ty bn.1).1 hgl
      have hm0 : 0 ≤ n * T := Int.mul_nonneg bn.1 (by omega)
      unfold grantP at gp
      exact core_some a b x y z T tau tat now n _ 0 _ (by omega) bt.1 bt.2 bw.1 bw.2 bn.1 d30 d31 hz0 hm0 (by omega) tv w kc g1 g2 k1
    · obtain rfl : n = 0 := by omega
      rw [if_neg (by omega)] at tv
      exact core_zero a b x y z T tau tat now _ 0 _ (by omega) bt.1 bt.2 bw.1 bw.2 d30 d31 tv w kc g1 g2 k1
  | false =>
    obtain ⟨hTat, hw⟩ := wn hg
    rw [hg] at k1
    rcases hw with ⟨hw, hm, he⟩ | ⟨x0, x1, x2, hy1, hy2⟩
    · rw [hw] at k1
      have tm : tickB (max now tat) = true := tickB_mk (by omega) (by omega)
      have g5 := fun v => granted_yes T tau tat now n v hl tx ty tz
      have g6 := fun v => granted_yes T tau tat (max now tat) n v hl tx tm tz
      have g7 := fun v => granted_yes T tau tat 4611686018427387903 n v hl tx (by decide) tz
      rw [hg] at g5
      rw [hm] at g6
      rw [he] at g7
      exact core_never a b x y z T tau tat now n _ 0 _ (by omega) bt.1 bt.2 bw.1 bw.2 bn.1 d30 d31 hTat w kc g1 g2 g5 g6 g7 k1
    · have g3 := fun v => granted_yes T tau tat (now + decWait T tau tat now n) n v hl tx (tickB_mk (by omega) (by omega)) tz
      have g4 := fun v => granted_yes T tau tat (now + decWait T tau tat now n - 1) n v hl tx (tickB_mk (by omega) (by omega)) tz
      rw [hy1] at g3
      rw [hy2] at g4
      exact core_wait a b x y z T tau tat now n _ _ _ (by omega) bt.1 bt.2 bw.1 bw.2 bn.1 d30 d31 hTat x0 x1 x2 w kc g1 g2 g3 g4 k1

set_option maxRecDepth 100000 in
theorem lifted (os : Os) (started : os.Started) (H : Type) (enc : TypeId × Value → H) :
    ReturnsInHanded {} Try.checked os 10 .any (Rows.gcraWaitsSpec.pre6 enc Try.prog Try.f10 Rows.gcraWaitsRow.domain false) (Rows.gcraWaitsSpec.post enc Try.prog Try.f10 false true false false) := by
  refine returnsInHanded_of_change (C := Try.checked) own started (by kernel_rfl) Try.func10
    (ChangeSpec.witness6 (enc := enc) (C := Try.checked) false ⟨#[], #[.agg #[.int .i64 0, .int .i64 0], .int .i64 0, .int .i64 0, .int .i64 0], []⟩ 8 (by kernel_rfl) (by kernel_rfl) (by kernel_rfl) (by kernel_rfl)) ?_
  intro W base args ds gs before hval0 hW hcnd _
  have hval : ∀ (j : Nat) t v, Try.f10.params[j]? = some t → args[j]? = some v → Value.okWide Try.prog W .any base t v := hval0
  have hW' := hW
  obtain ⟨p, q, hA0, hV, rfl, hfz, hnd⟩ := hW
  have hA : DataW.TrodAll enc Try.prog W 0 (fun _ => true) true Try.f10.params.toList args.toList ds p := hA0
  rw [Try.params10] at hA hval
  obtain ⟨v0, vs0, d0, ds0, p0, q0, hargs, rfl, rfl, h0, r0⟩ := trodAll_cons hA
  obtain ⟨v1, vs1, d1, ds1, p1, q1, rfl, rfl, rfl, h1, r1⟩ := trodAll_cons r0
  obtain ⟨v2, vs2, d2, ds2, p2, q2, rfl, rfl, rfl, h2, r2⟩ := trodAll_cons r1
  obtain ⟨v3, vs3, d3, ds3, p3, q3, rfl, rfl, rfl, h3, r3⟩ := trodAll_cons r2
  obtain ⟨rfl, rfl, rfl⟩ := trodAll_nil r3
  obtain rfl : args = #[v0, v1, v2, v3] := by cases args; simp_all
  obtain ⟨rfl, rfl⟩ := trodVars_none hV
  obtain ⟨c0, e0, y0, z0, m0, rfl, rfl, rfl, hy0, hz0⟩ := open_agg2 Try.underlying39 (by kernel_rfl) cellsL (hval 0 39 v0 rfl rfl) h0
  obtain ⟨a0, f0, rfl, w0⟩ := DataW.trod_int Try.underlying2 hy0
  obtain ⟨b0, g0, rfl, u0⟩ := DataW.trod_int Try.underlying2 hz0
  simp at f0 g0
  subst f0 g0
  obtain ⟨a1, rfl, rfl, rfl, w1⟩ := open_int Try.underlying2 (hval 1 2 v1 rfl rfl) h1
  obtain ⟨a2, rfl, rfl, rfl, w2⟩ := open_int Try.underlying2 (hval 2 2 v2 rfl rfl) h2
  obtain ⟨a3, rfl, rfl, rfl, w3⟩ := open_int Try.underlying2 (hval 3 2 v3 rfl rfl) h3
  clear hA0 hval0
  have sr0 : ∀ (W' : World) (sp : Nat → Bool), DataW.Trod enc Try.prog W' 0 sp true 39 (.agg #[.int .i64 a0, .int .i64 b0]) (.agg [.lit (.int .i64 a0), .lit (.int .i64 b0)]) [] := fun W' sp =>
    shut_agg2 (y0 := (.lit (.int .i64 a0), [])) (y1 := (.lit (.int .i64 b0), [])) Try.underlying39 (by kernel_rfl) cellsL ⟨1, by simp [DataW.trod, Try.underlying2, w0]⟩ ⟨1, by simp [DataW.trod, Try.underlying2, u0]⟩
  refine (walk a0 b0 a1 a2 a3 w0 u0 w1 w2 w3 W).mono fun e W' ⟨he, hg⟩ => ?_
  subst he
  exact ⟨_, rfl, _, _, _, [], _, [], hW', trodAll_mk1 (shut_bool Try.underlying4 _), (trodAll_cons_mk (sr0 _ _) (trodAll_cons_mk (shut_int Try.underlying2 w1) (trodAll_cons_mk (shut_int Try.underlying2 w2) (trodAll_cons_mk (shut_int Try.underlying2 w3) trodAll_mk0)))), rfl, hg.frame _, fun h => by cases h⟩

theorem over : Rows.gcraWaitsRow.holds Try.pinned (OpenSpec.ofChange Rows.gcraWaitsSpec) :=
  OpenClaim.holds_of_wide 10 Try.f10 rfl rfl rfl rfl rfl rfl rfl ⟨rfl, rfl, rfl, rfl, rfl⟩ rfl rfl rfl rfl rfl (by kernel_rfl) Try.func10 (by kernel_rfl)
    (of_decide_eq_true (by kernel_rfl)) (by unfold Func.isWrapper; first | (rw [if_pos (by decide +kernel)]; kernel_rfl) | (rw [if_neg (by decide +kernel)]; exact ⟨rfl, rfl⟩))
    (fun os started H enc _ => lifted os started H enc)

theorem proved : Rows.GcraWaitsSaid :=
  over
#print axioms proved
end Go.Proofs.Ytdjiihcbaedmcaa.gcraWaits
