/- RateBursts' walks. Printed by gen_bursts.py. -/
import Derived.Test.YtbpldplbkmabmaaDoorRtD
import Derived.Test.YtbpldplbkmabmaaDoorRtL
import Derived.Deep.QuietTactic
import Derived.BigQuiet
namespace Go.Proofs.YtbpldplbkmabmaaDoor
open Go.RowKit
set_option linter.unusedVariables false

attribute [local go_sem] run_store_float'

set_option maxRecDepth 100000 in
set_option maxHeartbeats 16000000 in
theorem bursts_all (p n x y : Nat) (hz T t u : Int) (w : World) (hT : Tab w) (hn : n < 65536)
    (hfl : floatOfInt .f64 (n : Int) = x) (hfa : floatBits .add .f64 x 4602678819172646912 = some y)
    (k0 : ∀ v, Tab v → Calls Tryd.prog 17 #[rateV p 0 hz] v (OfRes v T 0 0))
    (k1 : ∀ v, Tab v → Calls Tryd.prog 17 #[rateV p 9223372036854775808 hz] v (OfRes v T 0 0))
    (k2 : ∀ v, Tab v → Calls Tryd.prog 17 #[rateV p x hz] v (OfRes v T t 0))
    (k3 : ∀ v, Calls Tryd.prog 22 #[limV T t] v (TwoRes v ((n : Int) + 1) 0))
    (k4 : ∀ v, Tab v → Calls Tryd.prog 17 #[rateV p y hz] v (OfRes v T u 0))
    (hT1 : 1 ≤ T) (hT2 : T ≤ 4611686018427387903) (hmul : wrap64 ((n : Int) * T) = t) (hu1 : t ≤ u) (hu2 : u - t ≤ T / 2) (ht0 : 0 ≤ t) (hu3 : u ≤ 4611686018427387903) :
    Calls Tryd.prog 4 #[.int .u64 p, .int .i64 hz, .int .u16 n] w fun e w' => e = .returned (.bool true) ∧ Below w.heap.size w w' := by
  have HT := Lib.hid hT
  have Ka := Lib.hid (fun v h => awake4 v h)
  have Kf := Lib.hid (fun v => of4_any p 0 hz v)
  have Kcs := Lib.hid (fun v => copysign_any 0 13830554455654793216 v (by decide) (by decide))
  have hneg : mkW (sgn 13830554455654793216) (rg 0) = 9223372036854775808 := by decide +kernel
  rw [hneg] at Kcs
  unfold OfRes rateV limV TwoRes at *
  have K0 := Lib.hid k0; have K1 := Lib.hid k1; have K2 := Lib.hid k2; have K3 := Lib.hid k3; have K4 := Lib.hid k4; clear k0 k1 k2 k3 k4
  have hm := fun v => run_float_arith (P := Tryd.prog) v .add 23 .f64 x 4602678819172646912 y hfa
  clear hT hneg hfa
  go_enter Tryd.func4, Tryd.ntmps4
  go_wp2_with fail
  refine (Ka.out _ HT.out).mono ?_
  rintro e w1 ⟨rfl, hb1⟩
  have Hb1 := Lib.hid hb1
  clear hb1
  go_wp2_with fail
  refine (Kf.out _).mono ?_
  rintro e w2 ⟨rfl, hb⟩
  have Hb2 := Lib.hid (Hb1.out.trans (hb.mono Hb1.out.size))
  clear hb
  go_wp2_with fail
  have HA := Lib.hid (Hb2.out.alloc Hb2.out.size (.cells #[.float .f64 p, .float .f64 0, .int .i64 hz] 25))
  refine (K0.out _ (HT.out.later HA.out)).mono ?_
  rintro e w3 ⟨rfl, hb⟩
  have Hb3 := Lib.hid (HA.out.trans (hb.mono HA.out.size))
  obtain ⟨hc, hf⟩ := bcell hb
  have hz2_3 : w2.heap.size < w3.heap.size := by have := hb.size; simp at this; omega
  have hn2_3 : w2.heap.size ≠ w3.heap.size := by omega
  have c3_2_0 : w3.cell? ⟨w2.heap.size, 0, none⟩ = some (.float .f64 p) := (hc _ _ (by first | (simp; done) | (simp; omega))).trans (by simp [go_sem, *])
  have c3_2_1 : w3.cell? ⟨w2.heap.size, 1, none⟩ = some (.float .f64 0) := (hc _ _ (by first | (simp; done) | (simp; omega))).trans (by simp [go_sem, *])
  have c3_2_2 : w3.cell? ⟨w2.heap.size, 2, none⟩ = some (.int .i64 hz) := (hc _ _ (by first | (simp; done) | (simp; omega))).trans (by simp [go_sem, *])
  have f3_2_1 : w3.frozen? ⟨w2.heap.size, 1, none⟩ = false := (hf _ _ (by first | (simp; done) | (simp; omega))).trans (by simp [go_sem, *])
  clear hb hc hf
  go_wp2_with fail
  (with_reducible refine (Kcs.out _).mono ?_)
  rintro e w' ⟨rfl, rfl⟩
  go_wp2_with fail
  have HA4 := Lib.hid (fun o => ((Hb3.out.setCell (p := ⟨w2.heap.size, 1, none⟩) Hb2.out.size (.float .f64 9223372036854775808)).alloc (by simpa using Hb3.out.size) o))
  refine (K1.out _ (HT.out.later (HA4.out _))).mono ?_
  rintro e w4 ⟨rfl, hb⟩
  have Hb4 := Lib.hid ((HA4.out _).trans (hb.mono (HA4.out _).size))
  obtain ⟨hc, hf⟩ := bcell hb
  have hz2_4 : w2.heap.size < w4.heap.size := by have := hb.size; simp at this; omega
  have hn2_4 : w2.heap.size ≠ w4.heap.size := by omega
  have hz3_4 : w3.heap.size < w4.heap.size := by have := hb.size; simp at this; omega
  have hn3_4 : w3.heap.size ≠ w4.heap.size := by omega
  have c4_2_0 : w4.cell? ⟨w2.heap.size, 0, none⟩ = some (.float .f64 p) := (hc _ _ (by first | (simp; done) | (simp; omega))).trans (by simp [go_sem, *])
  have c4_2_1 : w4.cell? ⟨w2.heap.size, 1, none⟩ = some (.float .f64 9223372036854775808) := (hc _ _ (by first | (simp; done) | (simp; omega))).trans (by simp [go_sem, *])
  have c4_2_2 : w4.cell? ⟨w2.heap.size, 2, none⟩ = some (.int .i64 hz) := (hc _ _ (by first | (simp; done) | (simp; omega))).trans (by simp [go_sem, *])
  have c4_3_0 : w4.cell? ⟨w3.heap.size, 0, none⟩ = some (.int .i64 T) := (hc _ _ (by first | (simp; done) | (simp; omega))).trans (by simp [go_sem, *])
  have c4_3_1 : w4.cell? ⟨w3.heap.size, 1, none⟩ = some (.int .i64 0) := (hc _ _ (by first | (simp; done) | (simp; omega))).trans (by simp [go_sem, *])
  have f4_2_1 : w4.frozen? ⟨w2.heap.size, 1, none⟩ = false := (hf _ _ (by first | (simp; done) | (simp; omega))).trans (by simp [go_sem, *])
  clear hb hc hf
  go_wp2_with fail
  have HA5 := Lib.hid (fun o => ((Hb4.out.setCell (p := ⟨w2.heap.size, 1, none⟩) Hb2.out.size (.float .f64 x)).alloc (by simpa using Hb4.out.size) o))
  refine (K2.out _ (HT.out.later (HA5.out _))).mono ?_
  rintro e w5 ⟨rfl, hb⟩
  have Hb5 := Lib.hid ((HA5.out _).trans (hb.mono (HA5.out _).size))
  obtain ⟨hc, hf⟩ := bcell hb
  have hz2_5 : w2.heap.size < w5.heap.size := by have := hb.size; simp at this; omega
  have hn2_5 : w2.heap.size ≠ w5.heap.size := by omega
  have hz3_5 : w3.heap.size < w5.heap.size := by have := hb.size; simp at this; omega
  have hn3_5 : w3.heap.size ≠ w5.heap.size := by omega
  have hz4_5 : w4.heap.size < w5.heap.size := by have := hb.size; simp at this; omega
  have hn4_5 : w4.heap.size ≠ w5.heap.size := by omega
  have c5_2_0 : w5.cell? ⟨w2.heap.size, 0, none⟩ = some (.float .f64 p) := (hc _ _ (by first | (simp; done) | (simp; omega))).trans (by simp [go_sem, *])
  have c5_2_1 : w5.cell? ⟨w2.heap.size, 1, none⟩ = some (.float .f64 x) := (hc _ _ (by first | (simp; done) | (simp; omega))).trans (by simp [go_sem, *])
  have c5_2_2 : w5.cell? ⟨w2.heap.size, 2, none⟩ = some (.int .i64 hz) := (hc _ _ (by first | (simp; done) | (simp; omega))).trans (by simp [go_sem, *])
  have c5_3_0 : w5.cell? ⟨w3.heap.size, 0, none⟩ = some (.int .i64 T) := (hc _ _ (by first | (simp; done) | (simp; omega))).trans (by simp [go_sem, *])
  have c5_3_1 : w5.cell? ⟨w3.heap.size, 1, none⟩ = some (.int .i64 0) := (hc _ _ (by first | (simp; done) | (simp; omega))).trans (by simp [go_sem, *])
  have c5_4_0 : w5.cell? ⟨w4.heap.size, 0, none⟩ = some (.int .i64 T) := (hc _ _ (by first | (simp; done) | (simp; omega))).trans (by simp [go_sem, *])
  have c5_4_1 : w5.cell? ⟨w4.heap.size, 1, none⟩ = some (.int .i64 0) := (hc _ _ (by first | (simp; done) | (simp; omega))).trans (by simp [go_sem, *])
  have f5_2_1 : w5.frozen? ⟨w2.heap.size, 1, none⟩ = false := (hf _ _ (by first | (simp; done) | (simp; omega))).trans (by simp [go_sem, *])
  clear hb hc hf
  go_wp2_with fail
  have HA6 := Lib.hid (fun o => Hb5.out.alloc Hb5.out.size o)
  refine (K3.out _).mono ?_
  rintro e w6 ⟨rfl, hb⟩
  have Hb6 := Lib.hid ((HA6.out _).trans (hb.mono (HA6.out _).size))
  obtain ⟨hc, hf⟩ := bcell hb
  have hz2_6 : w2.heap.size < w6.heap.size := by have := hb.size; simp at this; omega
  have hn2_6 : w2.heap.size ≠ w6.heap.size := by omega
  have hz3_6 : w3.heap.size < w6.heap.size := by have := hb.size; simp at this; omega
  have hn3_6 : w3.heap.size ≠ w6.heap.size := by omega
  have hz4_6 : w4.heap.size < w6.heap.size := by have := hb.size; simp at this; omega
  have hn4_6 : w4.heap.size ≠ w6.heap.size := by omega
  have hz5_6 : w5.heap.size < w6.heap.size := by have := hb.size; simp at this; omega
  have hn5_6 : w5.heap.size ≠ w6.heap.size := by omega
  have c6_2_0 : w6.cell? ⟨w2.heap.size, 0, none⟩ = some (.float .f64 p) := (hc _ _ (by first | (simp; done) | (simp; omega))).trans (by simp [go_sem, *])
  have c6_2_1 : w6.cell? ⟨w2.heap.size, 1, none⟩ = some (.float .f64 x) := (hc _ _ (by first | (simp; done) | (simp; omega))).trans (by simp [go_sem, *])
  have c6_2_2 : w6.cell? ⟨w2.heap.size, 2, none⟩ = some (.int .i64 hz) := (hc _ _ (by first | (simp; done) | (simp; omega))).trans (by simp [go_sem, *])
  have c6_3_0 : w6.cell? ⟨w3.heap.size, 0, none⟩ = some (.int .i64 T) := (hc _ _ (by first | (simp; done) | (simp; omega))).trans (by simp [go_sem, *])
  have c6_3_1 : w6.cell? ⟨w3.heap.size, 1, none⟩ = some (.int .i64 0) := (hc _ _ (by first | (simp; done) | (simp; omega))).trans (by simp [go_sem, *])
  have c6_5_0 : w6.cell? ⟨w5.heap.size, 0, none⟩ = some (.int .i64 T) := (hc _ _ (by first | (simp; done) | (simp; omega))).trans (by simp [go_sem, *])
  have c6_5_1 : w6.cell? ⟨w5.heap.size, 1, none⟩ = some (.int .i64 t) := (hc _ _ (by first | (simp; done) | (simp; omega))).trans (by simp [go_sem, *])
  have f6_2_1 : w6.frozen? ⟨w2.heap.size, 1, none⟩ = false := (hf _ _ (by first | (simp; done) | (simp; omega))).trans (by simp [go_sem, *])
  clear hb hc hf
  go_wp2_with fail
  have HA7 := Lib.hid (Hb6.out.setCell (p := ⟨w2.heap.size, 1, none⟩) Hb2.out.size (.float .f64 y))
  refine (K4.out _ (HT.out.later HA7.out)).mono ?_
  rintro e w7 ⟨rfl, hb⟩
  have Hb7 := Lib.hid (HA7.out.trans (hb.mono HA7.out.size))
  obtain ⟨hc, hf⟩ := bcell hb
  have hz2_7 : w2.heap.size < w7.heap.size := by have := hb.size; simp at this; omega
  have hn2_7 : w2.heap.size ≠ w7.heap.size := by omega
  have hz3_7 : w3.heap.size < w7.heap.size := by have := hb.size; simp at this; omega
  have hn3_7 : w3.heap.size ≠ w7.heap.size := by omega
  have hz4_7 : w4.heap.size < w7.heap.size := by have := hb.size; simp at this; omega
  have hn4_7 : w4.heap.size ≠ w7.heap.size := by omega
  have hz5_7 : w5.heap.size < w7.heap.size := by have := hb.size; simp at this; omega
  have hn5_7 : w5.heap.size ≠ w7.heap.size := by omega
  have c7_2_0 : w7.cell? ⟨w2.heap.size, 0, none⟩ = some (.float .f64 p) := (hc _ _ (by first | (simp; done) | (simp; omega))).trans (by simp [go_sem, *])
  have c7_2_1 : w7.cell? ⟨w2.heap.size, 1, none⟩ = some (.float .f64 y) := (hc _ _ (by first | (simp; done) | (simp; omega))).trans (by simp [go_sem, *])
  have c7_2_2 : w7.cell? ⟨w2.heap.size, 2, none⟩ = some (.int .i64 hz) := (hc _ _ (by first | (simp; done) | (simp; omega))).trans (by simp [go_sem, *])
  have c7_3_0 : w7.cell? ⟨w3.heap.size, 0, none⟩ = some (.int .i64 T) := (hc _ _ (by first | (simp; done) | (simp; omega))).trans (by simp [go_sem, *])
  have c7_3_1 : w7.cell? ⟨w3.heap.size, 1, none⟩ = some (.int .i64 0) := (hc _ _ (by first | (simp; done) | (simp; omega))).trans (by simp [go_sem, *])
  have c7_5_0 : w7.cell? ⟨w5.heap.size, 0, none⟩ = some (.int .i64 T) := (hc _ _ (by first | (simp; done) | (simp; omega))).trans (by simp [go_sem, *])
  have c7_5_1 : w7.cell? ⟨w5.heap.size, 1, none⟩ = some (.int .i64 t) := (hc _ _ (by first | (simp; done) | (simp; omega))).trans (by simp [go_sem, *])
  have f7_2_1 : w7.frozen? ⟨w2.heap.size, 1, none⟩ = false := (hf _ _ (by first | (simp; done) | (simp; omega))).trans (by simp [go_sem, *])
  clear hb hc hf
  go_wp2_with fail
  go_ret
  exact ⟨rfl, Hb7.out.alloc Hb7.out.size _⟩

set_option maxRecDepth 100000 in
set_option maxHeartbeats 16000000 in
theorem bursts_bad (p n x y : Nat) (hz f : Int) (w : World) (hT : Tab w) (hn : n < 65536)
    (hfl : floatOfInt .f64 (n : Int) = x) (hfa : floatBits .add .f64 x 4602678819172646912 = some y)
    (k0 : ∀ v, Tab v → Calls Tryd.prog 17 #[rateV p 0 hz] v (OfRes v 0 0 f))
    (k1 : ∀ v, Tab v → Calls Tryd.prog 17 #[rateV p 9223372036854775808 hz] v (OfRes v 0 0 f))
    (hf0 : (f == 0) = false) (hf1 : (f != 0) = true) :
    Calls Tryd.prog 4 #[.int .u64 p, .int .i64 hz, .int .u16 n] w fun e w' => e = .returned (.bool true) ∧ Below w.heap.size w w' := by
  have HT := Lib.hid hT
  have Ka := Lib.hid (fun v h => awake4 v h)
  have Kf := Lib.hid (fun v => of4_any p 0 hz v)
  have Kcs := Lib.hid (fun v => copysign_any 0 13830554455654793216 v (by decide) (by decide))
  have hneg : mkW (sgn 13830554455654793216) (rg 0) = 9223372036854775808 := by decide +kernel
  rw [hneg] at Kcs
  unfold OfRes rateV limV at *
  have K0 := Lib.hid k0; have K1 := Lib.hid k1; clear k0 k1
  have hm := fun v => run_float_arith (P := Tryd.prog) v .add 23 .f64 x 4602678819172646912 y hfa
  clear hT hneg hfa
  go_enter Tryd.func4, Tryd.ntmps4
  go_wp2_with fail
  refine (Ka.out _ HT.out).mono ?_
  rintro e w1 ⟨rfl, hb1⟩
  have Hb1 := Lib.hid hb1
  clear hb1
  go_wp2_with fail
  refine (Kf.out _).mono ?_
  rintro e w2 ⟨rfl, hb⟩
  have Hb2 := Lib.hid (Hb1.out.trans (hb.mono Hb1.out.size))
  clear hb
  go_wp2_with fail
  have HA := Lib.hid (Hb2.out.alloc Hb2.out.size (.cells #[.float .f64 p, .float .f64 0, .int .i64 hz] 25))
  refine (K0.out _ (HT.out.later HA.out)).mono ?_
  rintro e w3 ⟨rfl, hb⟩
  have Hb3 := Lib.hid (HA.out.trans (hb.mono HA.out.size))
  obtain ⟨hc, hf⟩ := bcell hb
  have hz2_3 : w2.heap.size < w3.heap.size := by have := hb.size; simp at this; omega
  have hn2_3 : w2.heap.size ≠ w3.heap.size := by omega
  have c3_2_0 : w3.cell? ⟨w2.heap.size, 0, none⟩ = some (.float .f64 p) := (hc _ _ (by first | (simp; done) | (simp; omega))).trans (by simp [go_sem, *])
  have c3_2_1 : w3.cell? ⟨w2.heap.size, 1, none⟩ = some (.float .f64 0) := (hc _ _ (by first | (simp; done) | (simp; omega))).trans (by simp [go_sem, *])
  have c3_2_2 : w3.cell? ⟨w2.heap.size, 2, none⟩ = some (.int .i64 hz) := (hc _ _ (by first | (simp; done) | (simp; omega))).trans (by simp [go_sem, *])
  have f3_2_1 : w3.frozen? ⟨w2.heap.size, 1, none⟩ = false := (hf _ _ (by first | (simp; done) | (simp; omega))).trans (by simp [go_sem, *])
  clear hb hc hf
  go_wp2_with fail
  (with_reducible refine (Kcs.out _).mono ?_)
  rintro e w' ⟨rfl, rfl⟩
  go_wp2_with fail
  have HA4 := Lib.hid (fun o => ((Hb3.out.setCell (p := ⟨w2.heap.size, 1, none⟩) Hb2.out.size (.float .f64 9223372036854775808)).alloc (by simpa using Hb3.out.size) o))
  refine (K1.out _ (HT.out.later (HA4.out _))).mono ?_
  rintro e w4 ⟨rfl, hb⟩
  have Hb4 := Lib.hid ((HA4.out _).trans (hb.mono (HA4.out _).size))
  obtain ⟨hc, hf⟩ := bcell hb
  have hz2_4 : w2.heap.size < w4.heap.size := by have := hb.size; simp at this; omega
  have hn2_4 : w2.heap.size ≠ w4.heap.size := by omega
  have hz3_4 : w3.heap.size < w4.heap.size := by have := hb.size; simp at this; omega
  have hn3_4 : w3.heap.size ≠ w4.heap.size := by omega
  have c4_2_0 : w4.cell? ⟨w2.heap.size, 0, none⟩ = some (.float .f64 p) := (hc _ _ (by first | (simp; done) | (simp; omega))).trans (by simp [go_sem, *])
  have c4_2_1 : w4.cell? ⟨w2.heap.size, 1, none⟩ = some (.float .f64 9223372036854775808) := (hc _ _ (by first | (simp; done) | (simp; omega))).trans (by simp [go_sem, *])
  have c4_2_2 : w4.cell? ⟨w2.heap.size, 2, none⟩ = some (.int .i64 hz) := (hc _ _ (by first | (simp; done) | (simp; omega))).trans (by simp [go_sem, *])
  have c4_3_0 : w4.cell? ⟨w3.heap.size, 0, none⟩ = some (.int .i64 0) := (hc _ _ (by first | (simp; done) | (simp; omega))).trans (by simp [go_sem, *])
  have c4_3_1 : w4.cell? ⟨w3.heap.size, 1, none⟩ = some (.int .i64 0) := (hc _ _ (by first | (simp; done) | (simp; omega))).trans (by simp [go_sem, *])
  have f4_2_1 : w4.frozen? ⟨w2.heap.size, 1, none⟩ = false := (hf _ _ (by first | (simp; done) | (simp; omega))).trans (by simp [go_sem, *])
  clear hb hc hf
  go_wp2_with fail
  go_ret
  exact ⟨rfl, Hb4.out.alloc Hb4.out.size _⟩

set_option maxRecDepth 100000 in
set_option maxHeartbeats 16000000 in
theorem bursts_wide (p n x y : Nat) (hz T : Int) (w : World) (hT : Tab w) (hn : n < 65536)
    (hfl : floatOfInt .f64 (n : Int) = x) (hfa : floatBits .add .f64 x 4602678819172646912 = some y)
    (k0 : ∀ v, Tab v → Calls Tryd.prog 17 #[rateV p 0 hz] v (OfRes v T 0 0))
    (k1 : ∀ v, Tab v → Calls Tryd.prog 17 #[rateV p 9223372036854775808 hz] v (OfRes v T 0 0))
    (k2 : ∀ v, Tab v → Calls Tryd.prog 17 #[rateV p x hz] v (OfRes v 0 0 5))
    (hn0 : 0 < n) (hT0 : 4611686018427387903 / (n : Int) < T) :
    Calls Tryd.prog 4 #[.int .u64 p, .int .i64 hz, .int .u16 n] w fun e w' => e = .returned (.bool true) ∧ Below w.heap.size w w' := by
  have HT := Lib.hid hT
  have Ka := Lib.hid (fun v h => awake4 v h)
  have Kf := Lib.hid (fun v => of4_any p 0 hz v)
  have Kcs := Lib.hid (fun v => copysign_any 0 13830554455654793216 v (by decide) (by decide))
  have hneg : mkW (sgn 13830554455654793216) (rg 0) = 9223372036854775808 := by decide +kernel
  rw [hneg] at Kcs
  unfold OfRes rateV limV at *
  have K0 := Lib.hid k0; have K1 := Lib.hid k1; have K2 := Lib.hid k2; clear k0 k1 k2; have hni : (0 : Int) < (n : Int) := (by omega); have hnz : ((n : Int) == 0) = false := beq_eq_false_iff_ne.2 (by omega)
  have hm := fun v => run_float_arith (P := Tryd.prog) v .add 23 .f64 x 4602678819172646912 y hfa
  clear hT hneg hfa
  go_enter Tryd.func4, Tryd.ntmps4
  go_wp2_with fail
  refine (Ka.out _ HT.out).mono ?_
  rintro e w1 ⟨rfl, hb1⟩
  have Hb1 := Lib.hid hb1
  clear hb1
  go_wp2_with fail
  refine (Kf.out _).mono ?_
  rintro e w2 ⟨rfl, hb⟩
  have Hb2 := Lib.hid (Hb1.out.trans (hb.mono Hb1.out.size))
  clear hb
  go_wp2_with fail
  have HA := Lib.hid (Hb2.out.alloc Hb2.out.size (.cells #[.float .f64 p, .float .f64 0, .int .i64 hz] 25))
  refine (K0.out _ (HT.out.later HA.out)).mono ?_
  rintro e w3 ⟨rfl, hb⟩
  have Hb3 := Lib.hid (HA.out.trans (hb.mono HA.out.size))
  obtain ⟨hc, hf⟩ := bcell hb
  have hz2_3 : w2.heap.size < w3.heap.size := by have := hb.size; simp at this; omega
  have hn2_3 : w2.heap.size ≠ w3.heap.size := by omega
  have c3_2_0 : w3.cell? ⟨w2.heap.size, 0, none⟩ = some (.float .f64 p) := (hc _ _ (by first | (simp; done) | (simp; omega))).trans (by simp [go_sem, *])
  have c3_2_1 : w3.cell? ⟨w2.heap.size, 1, none⟩ = some (.float .f64 0) := (hc _ _ (by first | (simp; done) | (simp; omega))).trans (by simp [go_sem, *])
  have c3_2_2 : w3.cell? ⟨w2.heap.size, 2, none⟩ = some (.int .i64 hz) := (hc _ _ (by first | (simp; done) | (simp; omega))).trans (by simp [go_sem, *])
  have f3_2_1 : w3.frozen? ⟨w2.heap.size, 1, none⟩ = false := (hf _ _ (by first | (simp; done) | (simp; omega))).trans (by simp [go_sem, *])
  clear hb hc hf
  go_wp2_with fail
  (with_reducible refine (Kcs.out _).mono ?_)
  rintro e w' ⟨rfl, rfl⟩
  go_wp2_with fail
  have HA4 := Lib.hid (fun o => ((Hb3.out.setCell (p := ⟨w2.heap.size, 1, none⟩) Hb2.out.size (.float .f64 9223372036854775808)).alloc (by simpa using Hb3.out.size) o))
  refine (K1.out _ (HT.out.later (HA4.out _))).mono ?_
  rintro e w4 ⟨rfl, hb⟩
  have Hb4 := Lib.hid ((HA4.out _).trans (hb.mono (HA4.out _).size))
  obtain ⟨hc, hf⟩ := bcell hb
  have hz2_4 : w2.heap.size < w4.heap.size := by have := hb.size; simp at this; omega
  have hn2_4 : w2.heap.size ≠ w4.heap.size := by omega
  have hz3_4 : w3.heap.size < w4.heap.size := by have := hb.size; simp at this; omega
  have hn3_4 : w3.heap.size ≠ w4.heap.size := by omega
  have c4_2_0 : w4.cell? ⟨w2.heap.size, 0, none⟩ = some (.float .f64 p) := (hc _ _ (by first | (simp; done) | (simp; omega))).trans (by simp [go_sem, *])
  have c4_2_1 : w4.cell? ⟨w2.heap.size, 1, none⟩ = some (.float .f64 9223372036854775808) := (hc _ _ (by first | (simp; done) | (simp; omega))).trans (by simp [go_sem, *])
  have c4_2_2 : w4.cell? ⟨w2.heap.size, 2, none⟩ = some (.int .i64 hz) := (hc _ _ (by first | (simp; done) | (simp; omega))).trans (by simp [go_sem, *])
  have c4_3_0 : w4.cell? ⟨w3.heap.size, 0, none⟩ = some (.int .i64 T) := (hc _ _ (by first | (simp; done) | (simp; omega))).trans (by simp [go_sem, *])
  have c4_3_1 : w4.cell? ⟨w3.heap.size, 1, none⟩ = some (.int .i64 0) := (hc _ _ (by first | (simp; done) | (simp; omega))).trans (by simp [go_sem, *])
  have f4_2_1 : w4.frozen? ⟨w2.heap.size, 1, none⟩ = false := (hf _ _ (by first | (simp; done) | (simp; omega))).trans (by simp [go_sem, *])
  clear hb hc hf
  go_wp2_with fail
  have HA5 := Lib.hid (fun o => ((Hb4.out.setCell (p := ⟨w2.heap.size, 1, none⟩) Hb2.out.size (.float .f64 x)).alloc (by simpa using Hb4.out.size) o))
  refine (K2.out _ (HT.out.later (HA5.out _))).mono ?_
  rintro e w5 ⟨rfl, hb⟩
  have Hb5 := Lib.hid ((HA5.out _).trans (hb.mono (HA5.out _).size))
  obtain ⟨hc, hf⟩ := bcell hb
  have hz2_5 : w2.heap.size < w5.heap.size := by have := hb.size; simp at this; omega
  have hn2_5 : w2.heap.size ≠ w5.heap.size := by omega
  have hz3_5 : w3.heap.size < w5.heap.size := by have := hb.size; simp at this; omega
  have hn3_5 : w3.heap.size ≠ w5.heap.size := by omega
  have hz4_5 : w4.heap.size < w5.heap.size := by have := hb.size; simp at this; omega
  have hn4_5 : w4.heap.size ≠ w5.heap.size := by omega
  have c5_2_0 : w5.cell? ⟨w2.heap.size, 0, none⟩ = some (.float .f64 p) := (hc _ _ (by first | (simp; done) | (simp; omega))).trans (by simp [go_sem, *])
  have c5_2_1 : w5.cell? ⟨w2.heap.size, 1, none⟩ = some (.float .f64 x) := (hc _ _ (by first | (simp; done) | (simp; omega))).trans (by simp [go_sem, *])
  have c5_2_2 : w5.cell? ⟨w2.heap.size, 2, none⟩ = some (.int .i64 hz) := (hc _ _ (by first | (simp; done) | (simp; omega))).trans (by simp [go_sem, *])
  have c5_3_0 : w5.cell? ⟨w3.heap.size, 0, none⟩ = some (.int .i64 T) := (hc _ _ (by first | (simp; done) | (simp; omega))).trans (by simp [go_sem, *])
  have c5_3_1 : w5.cell? ⟨w3.heap.size, 1, none⟩ = some (.int .i64 0) := (hc _ _ (by first | (simp; done) | (simp; omega))).trans (by simp [go_sem, *])
  have c5_4_0 : w5.cell? ⟨w4.heap.size, 0, none⟩ = some (.int .i64 T) := (hc _ _ (by first | (simp; done) | (simp; omega))).trans (by simp [go_sem, *])
  have c5_4_1 : w5.cell? ⟨w4.heap.size, 1, none⟩ = some (.int .i64 0) := (hc _ _ (by first | (simp; done) | (simp; omega))).trans (by simp [go_sem, *])
  have f5_2_1 : w5.frozen? ⟨w2.heap.size, 1, none⟩ = false := (hf _ _ (by first | (simp; done) | (simp; omega))).trans (by simp [go_sem, *])
  clear hb hc hf
  go_wp2_with fail
  go_quiet (fail)
  go_wp2
  go_ret
  exact ⟨rfl, below_drewN (Hb5.out.alloc Hb5.out.size _) _⟩

set_option maxRecDepth 100000 in
set_option maxHeartbeats 16000000 in
theorem bursts_some (p n x y : Nat) (hz T t : Int) (w : World) (hT : Tab w) (hn : n < 65536)
    (hfl : floatOfInt .f64 (n : Int) = x) (hfa : floatBits .add .f64 x 4602678819172646912 = some y)
    (k0 : ∀ v, Tab v → Calls Tryd.prog 17 #[rateV p 0 hz] v (OfRes v T 0 0))
    (k1 : ∀ v, Tab v → Calls Tryd.prog 17 #[rateV p 9223372036854775808 hz] v (OfRes v T 0 0))
    (k2 : ∀ v, Tab v → Calls Tryd.prog 17 #[rateV p x hz] v (OfRes v T t 0))
    (k3 : ∀ v, Calls Tryd.prog 22 #[limV T t] v (TwoRes v ((n : Int) + 1) 0))
    (k4 : ∀ v, Tab v → Calls Tryd.prog 17 #[rateV p y hz] v (OfRes v 0 0 5))
    (hT1 : 1 ≤ T) (hT2 : T ≤ 4611686018427387903) (hmul : wrap64 ((n : Int) * T) = t) :
    Calls Tryd.prog 4 #[.int .u64 p, .int .i64 hz, .int .u16 n] w fun e w' => e = .returned (.bool true) ∧ Below w.heap.size w w' := by
  have HT := Lib.hid hT
  have Ka := Lib.hid (fun v h => awake4 v h)
  have Kf := Lib.hid (fun v => of4_any p 0 hz v)
  have Kcs := Lib.hid (fun v => copysign_any 0 13830554455654793216 v (by decide) (by decide))
  have hneg : mkW (sgn 13830554455654793216) (rg 0) = 9223372036854775808 := by decide +kernel
  rw [hneg] at Kcs
  unfold OfRes rateV limV TwoRes at *
  have K0 := Lib.hid k0; have K1 := Lib.hid k1; have K2 := Lib.hid k2; have K3 := Lib.hid k3; have K4 := Lib.hid k4; clear k0 k1 k2 k3 k4
  have hm := fun v => run_float_arith (P := Tryd.prog) v .add 23 .f64 x 4602678819172646912 y hfa
  clear hT hneg hfa
  go_enter Tryd.func4, Tryd.ntmps4
  go_wp2_with fail
  refine (Ka.out _ HT.out).mono ?_
  rintro e w1 ⟨rfl, hb1⟩
  have Hb1 := Lib.hid hb1
  clear hb1
  go_wp2_with fail
  refine (Kf.out _).mono ?_
  rintro e w2 ⟨rfl, hb⟩
  have Hb2 := Lib.hid (Hb1.out.trans (hb.mono Hb1.out.size))
  clear hb
  go_wp2_with fail
  have HA := Lib.hid (Hb2.out.alloc Hb2.out.size (.cells #[.float .f64 p, .float .f64 0, .int .i64 hz] 25))
  refine (K0.out _ (HT.out.later HA.out)).mono ?_
  rintro e w3 ⟨rfl, hb⟩
  have Hb3 := Lib.hid (HA.out.trans (hb.mono HA.out.size))
  obtain ⟨hc, hf⟩ := bcell hb
  have hz2_3 : w2.heap.size < w3.heap.size := by have := hb.size; simp at this; omega
  have hn2_3 : w2.heap.size ≠ w3.heap.size := by omega
  have c3_2_0 : w3.cell? ⟨w2.heap.size, 0, none⟩ = some (.float .f64 p) := (hc _ _ (by first | (simp; done) | (simp; omega))).trans (by simp [go_sem, *])
  have c3_2_1 : w3.cell? ⟨w2.heap.size, 1, none⟩ = some (.float .f64 0) := (hc _ _ (by first | (simp; done) | (simp; omega))).trans (by simp [go_sem, *])
  have c3_2_2 : w3.cell? ⟨w2.heap.size, 2, none⟩ = some (.int .i64 hz) := (hc _ _ (by first | (simp; done) | (simp; omega))).trans (by simp [go_sem, *])
  have f3_2_1 : w3.frozen? ⟨w2.heap.size, 1, none⟩ = false := (hf _ _ (by first | (simp; done) | (simp; omega))).trans (by simp [go_sem, *])
  clear hb hc hf
  go_wp2_with fail
  (with_reducible refine (Kcs.out _).mono ?_)
  rintro e w' ⟨rfl, rfl⟩
  go_wp2_with fail
  have HA4 := Lib.hid (fun o => ((Hb3.out.setCell (p := ⟨w2.heap.size, 1, none⟩) Hb2.out.size (.float .f64 9223372036854775808)).alloc (by simpa using Hb3.out.size) o))
  refine (K1.out _ (HT.out.later (HA4.out _))).mono ?_
  rintro e w4 ⟨rfl, hb⟩
  have Hb4 := Lib.hid ((HA4.out _).trans (hb.mono (HA4.out _).size))
  obtain ⟨hc, hf⟩ := bcell hb
  have hz2_4 : w2.heap.size < w4.heap.size := by have := hb.size; simp at this; omega
  have hn2_4 : w2.heap.size ≠ w4.heap.size := by omega
  have hz3_4 : w3.heap.size < w4.heap.size := by have := hb.size; simp at this; omega
  have hn3_4 : w3.heap.size ≠ w4.heap.size := by omega
  have c4_2_0 : w4.cell? ⟨w2.heap.size, 0, none⟩ = some (.float .f64 p) := (hc _ _ (by first | (simp; done) | (simp; omega))).trans (by simp [go_sem, *])
  have c4_2_1 : w4.cell? ⟨w2.heap.size, 1, none⟩ = some (.float .f64 9223372036854775808) := (hc _ _ (by first | (simp; done) | (simp; omega))).trans (by simp [go_sem, *])
  have c4_2_2 : w4.cell? ⟨w2.heap.size, 2, none⟩ = some (.int .i64 hz) := (hc _ _ (by first | (simp; done) | (simp; omega))).trans (by simp [go_sem, *])
  have c4_3_0 : w4.cell? ⟨w3.heap.size, 0, none⟩ = some (.int .i64 T) := (hc _ _ (by first | (simp; done) | (simp; omega))).trans (by simp [go_sem, *])
  have c4_3_1 : w4.cell? ⟨w3.heap.size, 1, none⟩ = some (.int .i64 0) := (hc _ _ (by first | (simp; done) | (simp; omega))).trans (by simp [go_sem, *])
  have f4_2_1 : w4.frozen? ⟨w2.heap.size, 1, none⟩ = false := (hf _ _ (by first | (simp; done) | (simp; omega))).trans (by simp [go_sem, *])
  clear hb hc hf
  go_wp2_with fail
  have HA5 := Lib.hid (fun o => ((Hb4.out.setCell (p := ⟨w2.heap.size, 1, none⟩) Hb2.out.size (.float .f64 x)).alloc (by simpa using Hb4.out.size) o))
  refine (K2.out _ (HT.out.later (HA5.out _))).mono ?_
  rintro e w5 ⟨rfl, hb⟩
  have Hb5 := Lib.hid ((HA5.out _).trans (hb.mono (HA5.out _).size))
  obtain ⟨hc, hf⟩ := bcell hb
  have hz2_5 : w2.heap.size < w5.heap.size := by have := hb.size; simp at this; omega
  have hn2_5 : w2.heap.size ≠ w5.heap.size := by omega
  have hz3_5 : w3.heap.size < w5.heap.size := by have := hb.size; simp at this; omega
  have hn3_5 : w3.heap.size ≠ w5.heap.size := by omega
  have hz4_5 : w4.heap.size < w5.heap.size := by have := hb.size; simp at this; omega
  have hn4_5 : w4.heap.size ≠ w5.heap.size := by omega
  have c5_2_0 : w5.cell? ⟨w2.heap.size, 0, none⟩ = some (.float .f64 p) := (hc _ _ (by first | (simp; done) | (simp; omega))).trans (by simp [go_sem, *])
  have c5_2_1 : w5.cell? ⟨w2.heap.size, 1, none⟩ = some (.float .f64 x) := (hc _ _ (by first | (simp; done) | (simp; omega))).trans (by simp [go_sem, *])
  have c5_2_2 : w5.cell? ⟨w2.heap.size, 2, none⟩ = some (.int .i64 hz) := (hc _ _ (by first | (simp; done) | (simp; omega))).trans (by simp [go_sem, *])
  have c5_3_0 : w5.cell? ⟨w3.heap.size, 0, none⟩ = some (.int .i64 T) := (hc _ _ (by first | (simp; done) | (simp; omega))).trans (by simp [go_sem, *])
  have c5_3_1 : w5.cell? ⟨w3.heap.size, 1, none⟩ = some (.int .i64 0) := (hc _ _ (by first | (simp; done) | (simp; omega))).trans (by simp [go_sem, *])
  have c5_4_0 : w5.cell? ⟨w4.heap.size, 0, none⟩ = some (.int .i64 T) := (hc _ _ (by first | (simp; done) | (simp; omega))).trans (by simp [go_sem, *])
  have c5_4_1 : w5.cell? ⟨w4.heap.size, 1, none⟩ = some (.int .i64 0) := (hc _ _ (by first | (simp; done) | (simp; omega))).trans (by simp [go_sem, *])
  have f5_2_1 : w5.frozen? ⟨w2.heap.size, 1, none⟩ = false := (hf _ _ (by first | (simp; done) | (simp; omega))).trans (by simp [go_sem, *])
  clear hb hc hf
  go_wp2_with fail
  have HA6 := Lib.hid (fun o => Hb5.out.alloc Hb5.out.size o)
  refine (K3.out _).mono ?_
  rintro e w6 ⟨rfl, hb⟩
  have Hb6 := Lib.hid ((HA6.out _).trans (hb.mono (HA6.out _).size))
  obtain ⟨hc, hf⟩ := bcell hb
  have hz2_6 : w2.heap.size < w6.heap.size := by have := hb.size; simp at this; omega
  have hn2_6 : w2.heap.size ≠ w6.heap.size := by omega
  have hz3_6 : w3.heap.size < w6.heap.size := by have := hb.size; simp at this; omega
  have hn3_6 : w3.heap.size ≠ w6.heap.size := by omega
  have hz4_6 : w4.heap.size < w6.heap.size := by have := hb.size; simp at this; omega
  have hn4_6 : w4.heap.size ≠ w6.heap.size := by omega
  have hz5_6 : w5.heap.size < w6.heap.size := by have := hb.size; simp at this; omega
  have hn5_6 : w5.heap.size ≠ w6.heap.size := by omega
  have c6_2_0 : w6.cell? ⟨w2.heap.size, 0, none⟩ = some (.float .f64 p) := (hc _ _ (by first | (simp; done) | (simp; omega))).trans (by simp [go_sem, *])
  have c6_2_1 : w6.cell? ⟨w2.heap.size, 1, none⟩ = some (.float .f64 x) := (hc _ _ (by first | (simp; done) | (simp; omega))).trans (by simp [go_sem, *])
  have c6_2_2 : w6.cell? ⟨w2.heap.size, 2, none⟩ = some (.int .i64 hz) := (hc _ _ (by first | (simp; done) | (simp; omega))).trans (by simp [go_sem, *])
  have c6_3_0 : w6.cell? ⟨w3.heap.size, 0, none⟩ = some (.int .i64 T) := (hc _ _ (by first | (simp; done) | (simp; omega))).trans (by simp [go_sem, *])
  have c6_3_1 : w6.cell? ⟨w3.heap.size, 1, none⟩ = some (.int .i64 0) := (hc _ _ (by first | (simp; done) | (simp; omega))).trans (by simp [go_sem, *])
  have c6_5_0 : w6.cell? ⟨w5.heap.size, 0, none⟩ = some (.int .i64 T) := (hc _ _ (by first | (simp; done) | (simp; omega))).trans (by simp [go_sem, *])
  have c6_5_1 : w6.cell? ⟨w5.heap.size, 1, none⟩ = some (.int .i64 t) := (hc _ _ (by first | (simp; done) | (simp; omega))).trans (by simp [go_sem, *])
  have f6_2_1 : w6.frozen? ⟨w2.heap.size, 1, none⟩ = false := (hf _ _ (by first | (simp; done) | (simp; omega))).trans (by simp [go_sem, *])
  clear hb hc hf
  go_wp2_with fail
  have HA7 := Lib.hid (Hb6.out.setCell (p := ⟨w2.heap.size, 1, none⟩) Hb2.out.size (.float .f64 y))
  refine (K4.out _ (HT.out.later HA7.out)).mono ?_
  rintro e w7 ⟨rfl, hb⟩
  have Hb7 := Lib.hid (HA7.out.trans (hb.mono HA7.out.size))
  obtain ⟨hc, hf⟩ := bcell hb
  have hz2_7 : w2.heap.size < w7.heap.size := by have := hb.size; simp at this; omega
  have hn2_7 : w2.heap.size ≠ w7.heap.size := by omega
  have hz3_7 : w3.heap.size < w7.heap.size := by have := hb.size; simp at this; omega
  have hn3_7 : w3.heap.size ≠ w7.heap.size := by omega
  have hz4_7 : w4.heap.size < w7.heap.size := by have := hb.size; simp at this; omega
  have hn4_7 : w4.heap.size ≠ w7.heap.size := by omega
  have hz5_7 : w5.heap.size < w7.heap.size := by have := hb.size; simp at this; omega
  have hn5_7 : w5.heap.size ≠ w7.heap.size := by omega
  have c7_2_0 : w7.cell? ⟨w2.heap.size, 0, none⟩ = some (.float .f64 p) := (hc _ _ (by first | (simp; done) | (simp; omega))).trans (by simp [go_sem, *])
  have c7_2_1 : w7.cell? ⟨w2.heap.size, 1, none⟩ = some (.float .f64 y) := (hc _ _ (by first | (simp; done) | (simp; omega))).trans (by simp [go_sem, *])
  have c7_2_2 : w7.cell? ⟨w2.heap.size, 2, none⟩ = some (.int .i64 hz) := (hc _ _ (by first | (simp; done) | (simp; omega))).trans (by simp [go_sem, *])
  have c7_3_0 : w7.cell? ⟨w3.heap.size, 0, none⟩ = some (.int .i64 T) := (hc _ _ (by first | (simp; done) | (simp; omega))).trans (by simp [go_sem, *])
  have c7_3_1 : w7.cell? ⟨w3.heap.size, 1, none⟩ = some (.int .i64 0) := (hc _ _ (by first | (simp; done) | (simp; omega))).trans (by simp [go_sem, *])
  have c7_5_0 : w7.cell? ⟨w5.heap.size, 0, none⟩ = some (.int .i64 T) := (hc _ _ (by first | (simp; done) | (simp; omega))).trans (by simp [go_sem, *])
  have c7_5_1 : w7.cell? ⟨w5.heap.size, 1, none⟩ = some (.int .i64 t) := (hc _ _ (by first | (simp; done) | (simp; omega))).trans (by simp [go_sem, *])
  have f7_2_1 : w7.frozen? ⟨w2.heap.size, 1, none⟩ = false := (hf _ _ (by first | (simp; done) | (simp; omega))).trans (by simp [go_sem, *])
  clear hb hc hf
  go_wp2_with fail
  go_ret
  exact ⟨rfl, Hb7.out.alloc Hb7.out.size _⟩
end Go.Proofs.YtbpldplbkmabmaaDoor
