/- RateNever's walks. Printed by gen_never.py. -/
import Derived.Test.YtbpldplbkmabmaaDoorRtD
import Derived.Test.YtbpldplbkmabmaaDoorRtL
import Derived.Deep.QuietTactic
import Derived.BigQuiet
namespace Go.Proofs.YtbpldplbkmabmaaDoor
open Go.RowKit
set_option linter.unusedVariables false

attribute [local go_sem] run_store_float'

set_option maxRecDepth 100000 in
set_option maxHeartbeats 16000000 in
theorem never_bad (p : Nat) (hz f : Int) (w : World) (hT : Tab w)
    (k0 : ∀ v, Tab v → Calls Tryd.prog 17 #[rateV p 0 hz] v (OfRes v 0 0 f))
    (hf0 : (f == 0) = false) (hf1 : (f != 0) = true) :
    Calls Tryd.prog 7 #[.int .u64 p, .int .i64 hz] w fun e w' => e = .returned (.bool true) ∧ Below w.heap.size w w' := by
  have HT := Lib.hid hT
  have Ka := Lib.hid (fun v h => awake4 v h)
  have Kf := Lib.hid (fun v => of4_any p 0 hz v)
  unfold OfRes rateV limV at *
  have K0 := Lib.hid k0; clear k0
  clear hT
  go_enter Tryd.func7, Tryd.ntmps7
  go_wp2_with fail
  refine (Ka.out _ HT.out).mono ?_
  rintro e w1 ⟨rfl, hb1⟩
  have Hb1 := Lib.hid hb1
  clear hb1
  go_wp2_with fail
  refine (Kf.out _).mono ?_
  rintro e w2 ⟨rfl, hb⟩
  have Hb2 := Lib.hid (Hb1.out.trans (hb.mono Hb1.out.size))
  clear hb
  go_wp2_with fail
  have HA3 := Lib.hid (fun o => Hb2.out.alloc Hb2.out.size o)
  refine (K0.out _ (HT.out.later (HA3.out _))).mono ?_
  rintro e w3 ⟨rfl, hb⟩
  have Hb3 := Lib.hid ((HA3.out _).trans (hb.mono (HA3.out _).size))
  obtain ⟨hc, hf⟩ := bcell hb
  have hz2_3 : w2.heap.size < w3.heap.size := by have := hb.size; (try simp at this); omega
  have hn2_3 : w2.heap.size ≠ w3.heap.size := by omega
  have c3_2_0 : w3.cell? ⟨w2.heap.size, 0, none⟩ = some (.float .f64 p) := (hc _ _ (by first | assumption | (simp; done) | (simp; omega))).trans (by simp [go_sem, *])
  have c3_2_1 : w3.cell? ⟨w2.heap.size, 1, none⟩ = some (.float .f64 0) := (hc _ _ (by first | assumption | (simp; done) | (simp; omega))).trans (by simp [go_sem, *])
  have c3_2_2 : w3.cell? ⟨w2.heap.size, 2, none⟩ = some (.int .i64 hz) := (hc _ _ (by first | assumption | (simp; done) | (simp; omega))).trans (by simp [go_sem, *])
  clear hb hc hf
  go_wp2_with fail
  go_ret
  exact ⟨rfl, Hb3.out.alloc Hb3.out.size _⟩

set_option maxRecDepth 100000 in
set_option maxHeartbeats 16000000 in
theorem never_more (p q x y : Nat) (hz T m : Int) (w : World) (hT : Tab w)
    (k0 : ∀ v, Tab v → Calls Tryd.prog 17 #[rateV p 0 hz] v (OfRes v T 0 0))
    (k1 : ∀ v, Calls Tryd.prog 24 #[limV T 0, .int .i64 hz] v (FE v x 0))
    (k2 : ∀ v, Calls Tryd.prog 24 #[limV (T - 1) 0, .int .i64 hz] v (FE v y 0))
    (k3 : ∀ v, Tab v → Calls Tryd.prog 17 #[rateV q 0 hz] v (OfRes v m 0 0))
    (hT1 : 1 < T) (hT2 : T ≤ 4611686018427387903) (hm1 : m ≤ T) (hm2 : T / 2 ≤ m) (ho1 : (FloatKind.f64.format.order x p == some .gt) = false) (ho2 : (FloatKind.f64.format.order y p == some .lt) = false)
    (hb1 : (FloatKind.f64.format.order p 9110782046170513408 == some .gt) = false) (hb2 : (FloatKind.f64.format.order p 9110782046170513408 == some .eq) = false) (hmu : floatBits .mul .f64 4611686018427387904 p = some q) :
    Calls Tryd.prog 7 #[.int .u64 p, .int .i64 hz] w fun e w' => e = .returned (.bool true) ∧ Below w.heap.size w w' := by
  have HT := Lib.hid hT
  have Ka := Lib.hid (fun v h => awake4 v h)
  have Kf := Lib.hid (fun v => of4_any p 0 hz v)
  unfold OfRes rateV limV FE at *
  have K0 := Lib.hid k0; have K1 := Lib.hid k1; have K2 := Lib.hid k2; have K3 := Lib.hid k3; clear k0 k1 k2 k3; have hm := fun v => run_float_arith (P := Tryd.prog) v .mul 23 .f64 4611686018427387904 p q hmu; clear hmu
  clear hT
  go_enter Tryd.func7, Tryd.ntmps7
  go_wp2_with fail
  refine (Ka.out _ HT.out).mono ?_
  rintro e w1 ⟨rfl, hb1⟩
  have Hb1 := Lib.hid hb1
  clear hb1
  go_wp2_with fail
  refine (Kf.out _).mono ?_
  rintro e w2 ⟨rfl, hb⟩
  have Hb2 := Lib.hid (Hb1.out.trans (hb.mono Hb1.out.size))
  clear hb
  go_wp2_with fail
  have HA3 := Lib.hid (fun o => Hb2.out.alloc Hb2.out.size o)
  refine (K0.out _ (HT.out.later (HA3.out _))).mono ?_
  rintro e w3 ⟨rfl, hb⟩
  have Hb3 := Lib.hid ((HA3.out _).trans (hb.mono (HA3.out _).size))
  obtain ⟨hc, hf⟩ := bcell hb
  have hz2_3 : w2.heap.size < w3.heap.size := by have := hb.size; (try simp at this); omega
  have hn2_3 : w2.heap.size ≠ w3.heap.size := by omega
  have c3_2_0 : w3.cell? ⟨w2.heap.size, 0, none⟩ = some (.float .f64 p) := (hc _ _ (by first | assumption | (simp; done) | (simp; omega))).trans (by simp [go_sem, *])
  have c3_2_1 : w3.cell? ⟨w2.heap.size, 1, none⟩ = some (.float .f64 0) := (hc _ _ (by first | assumption | (simp; done) | (simp; omega))).trans (by simp [go_sem, *])
  have c3_2_2 : w3.cell? ⟨w2.heap.size, 2, none⟩ = some (.int .i64 hz) := (hc _ _ (by first | assumption | (simp; done) | (simp; omega))).trans (by simp [go_sem, *])
  clear hb hc hf
  go_wp2_with fail
  have HA4 := Lib.hid (fun o => Hb3.out.alloc Hb3.out.size o)
  refine (K1.out _).mono ?_
  rintro e w4 ⟨rfl, hb⟩
  have Hb4 := Lib.hid ((HA4.out _).trans (hb.mono (HA4.out _).size))
  obtain ⟨hc, hf⟩ := bcell hb
  have hz2_4 : w2.heap.size < w4.heap.size := by have := hb.size; (try simp at this); omega
  have hn2_4 : w2.heap.size ≠ w4.heap.size := by omega
  have hz3_4 : w3.heap.size < w4.heap.size := by have := hb.size; (try simp at this); omega
  have hn3_4 : w3.heap.size ≠ w4.heap.size := by omega
  have c4_2_0 : w4.cell? ⟨w2.heap.size, 0, none⟩ = some (.float .f64 p) := (hc _ _ (by first | assumption | (simp; done) | (simp; omega))).trans (by simp [go_sem, *])
  have c4_2_1 : w4.cell? ⟨w2.heap.size, 1, none⟩ = some (.float .f64 0) := (hc _ _ (by first | assumption | (simp; done) | (simp; omega))).trans (by simp [go_sem, *])
  have c4_2_2 : w4.cell? ⟨w2.heap.size, 2, none⟩ = some (.int .i64 hz) := (hc _ _ (by first | assumption | (simp; done) | (simp; omega))).trans (by simp [go_sem, *])
  have c4_3_0 : w4.cell? ⟨w3.heap.size, 0, none⟩ = some (.int .i64 T) := (hc _ _ (by first | assumption | (simp; done) | (simp; omega))).trans (by simp [go_sem, *])
  have c4_3_1 : w4.cell? ⟨w3.heap.size, 1, none⟩ = some (.int .i64 0) := (hc _ _ (by first | assumption | (simp; done) | (simp; omega))).trans (by simp [go_sem, *])
  clear hb hc hf
  go_wp2_with fail
  refine (K2.out _).mono ?_
  rintro e w5 ⟨rfl, hb⟩
  have Hb5 := Lib.hid (Hb4.out.trans (hb.mono Hb4.out.size))
  obtain ⟨hc, hf⟩ := bcell hb
  have hz2_5 : w2.heap.size < w5.heap.size := by have := hb.size; (try simp at this); omega
  have hn2_5 : w2.heap.size ≠ w5.heap.size := by omega
  have hz3_5 : w3.heap.size < w5.heap.size := by have := hb.size; (try simp at this); omega
  have hn3_5 : w3.heap.size ≠ w5.heap.size := by omega
  have c5_2_0 : w5.cell? ⟨w2.heap.size, 0, none⟩ = some (.float .f64 p) := (hc _ _ (by first | assumption | (simp; done) | (simp; omega))).trans (by simp [go_sem, *])
  have c5_2_1 : w5.cell? ⟨w2.heap.size, 1, none⟩ = some (.float .f64 0) := (hc _ _ (by first | assumption | (simp; done) | (simp; omega))).trans (by simp [go_sem, *])
  have c5_2_2 : w5.cell? ⟨w2.heap.size, 2, none⟩ = some (.int .i64 hz) := (hc _ _ (by first | assumption | (simp; done) | (simp; omega))).trans (by simp [go_sem, *])
  have c5_3_0 : w5.cell? ⟨w3.heap.size, 0, none⟩ = some (.int .i64 T) := (hc _ _ (by first | assumption | (simp; done) | (simp; omega))).trans (by simp [go_sem, *])
  have c5_3_1 : w5.cell? ⟨w3.heap.size, 1, none⟩ = some (.int .i64 0) := (hc _ _ (by first | assumption | (simp; done) | (simp; omega))).trans (by simp [go_sem, *])
  clear hb hc hf
  go_wp2_with fail
  refine (K3.out _ (HT.out.later Hb5.out)).mono ?_
  rintro e w6 ⟨rfl, hb⟩
  have Hb6 := Lib.hid (Hb5.out.trans (hb.mono Hb5.out.size))
  obtain ⟨hc, hf⟩ := bcell hb
  have hz2_6 : w2.heap.size < w6.heap.size := by have := hb.size; (try simp at this); omega
  have hn2_6 : w2.heap.size ≠ w6.heap.size := by omega
  have hz3_6 : w3.heap.size < w6.heap.size := by have := hb.size; (try simp at this); omega
  have hn3_6 : w3.heap.size ≠ w6.heap.size := by omega
  have c6_2_0 : w6.cell? ⟨w2.heap.size, 0, none⟩ = some (.float .f64 p) := (hc _ _ (by first | assumption | (simp; done) | (simp; omega))).trans (by simp [go_sem, *])
  have c6_2_1 : w6.cell? ⟨w2.heap.size, 1, none⟩ = some (.float .f64 0) := (hc _ _ (by first | assumption | (simp; done) | (simp; omega))).trans (by simp [go_sem, *])
  have c6_2_2 : w6.cell? ⟨w2.heap.size, 2, none⟩ = some (.int .i64 hz) := (hc _ _ (by first | assumption | (simp; done) | (simp; omega))).trans (by simp [go_sem, *])
  have c6_3_0 : w6.cell? ⟨w3.heap.size, 0, none⟩ = some (.int .i64 T) := (hc _ _ (by first | assumption | (simp; done) | (simp; omega))).trans (by simp [go_sem, *])
  have c6_3_1 : w6.cell? ⟨w3.heap.size, 1, none⟩ = some (.int .i64 0) := (hc _ _ (by first | assumption | (simp; done) | (simp; omega))).trans (by simp [go_sem, *])
  clear hb hc hf
  go_wp2_with fail
  go_ret
  exact ⟨rfl, Hb6.out.alloc Hb6.out.size _⟩

set_option maxRecDepth 100000 in
set_option maxHeartbeats 16000000 in
theorem never_one (p q x : Nat) (hz m : Int) (w : World) (hT : Tab w)
    (k0 : ∀ v, Tab v → Calls Tryd.prog 17 #[rateV p 0 hz] v (OfRes v 1 0 0))
    (k1 : ∀ v, Calls Tryd.prog 24 #[limV 1 0, .int .i64 hz] v (FE v x 0))
    (k3 : ∀ v, Tab v → Calls Tryd.prog 17 #[rateV q 0 hz] v (OfRes v m 0 0))
    (hm1 : m ≤ 1) (hm2 : 0 ≤ m)
    (hb1 : (FloatKind.f64.format.order p 9110782046170513408 == some .gt) = false) (hb2 : (FloatKind.f64.format.order p 9110782046170513408 == some .eq) = false) (hmu : floatBits .mul .f64 4611686018427387904 p = some q) :
    Calls Tryd.prog 7 #[.int .u64 p, .int .i64 hz] w fun e w' => e = .returned (.bool true) ∧ Below w.heap.size w w' := by
  have HT := Lib.hid hT
  have Ka := Lib.hid (fun v h => awake4 v h)
  have Kf := Lib.hid (fun v => of4_any p 0 hz v)
  unfold OfRes rateV limV FE at *
  have K0 := Lib.hid k0; have K1 := Lib.hid k1; have K3 := Lib.hid k3; clear k0 k1 k3; have hm := fun v => run_float_arith (P := Tryd.prog) v .mul 23 .f64 4611686018427387904 p q hmu; clear hmu
  clear hT
  go_enter Tryd.func7, Tryd.ntmps7
  go_wp2_with fail
  refine (Ka.out _ HT.out).mono ?_
  rintro e w1 ⟨rfl, hb1⟩
  have Hb1 := Lib.hid hb1
  clear hb1
  go_wp2_with fail
  refine (Kf.out _).mono ?_
  rintro e w2 ⟨rfl, hb⟩
  have Hb2 := Lib.hid (Hb1.out.trans (hb.mono Hb1.out.size))
  clear hb
  go_wp2_with fail
  have HA3 := Lib.hid (fun o => Hb2.out.alloc Hb2.out.size o)
  refine (K0.out _ (HT.out.later (HA3.out _))).mono ?_
  rintro e w3 ⟨rfl, hb⟩
  have Hb3 := Lib.hid ((HA3.out _).trans (hb.mono (HA3.out _).size))
  obtain ⟨hc, hf⟩ := bcell hb
  have hz2_3 : w2.heap.size < w3.heap.size := by have := hb.size; (try simp at this); omega
  have hn2_3 : w2.heap.size ≠ w3.heap.size := by omega
  have c3_2_0 : w3.cell? ⟨w2.heap.size, 0, none⟩ = some (.float .f64 p) := (hc _ _ (by first | assumption | (simp; done) | (simp; omega))).trans (by simp [go_sem, *])
  have c3_2_1 : w3.cell? ⟨w2.heap.size, 1, none⟩ = some (.float .f64 0) := (hc _ _ (by first | assumption | (simp; done) | (simp; omega))).trans (by simp [go_sem, *])
  have c3_2_2 : w3.cell? ⟨w2.heap.size, 2, none⟩ = some (.int .i64 hz) := (hc _ _ (by first | assumption | (simp; done) | (simp; omega))).trans (by simp [go_sem, *])
  clear hb hc hf
  go_wp2_with fail
  have HA4 := Lib.hid (fun o => Hb3.out.alloc Hb3.out.size o)
  refine (K1.out _).mono ?_
  rintro e w4 ⟨rfl, hb⟩
  have Hb4 := Lib.hid ((HA4.out _).trans (hb.mono (HA4.out _).size))
  obtain ⟨hc, hf⟩ := bcell hb
  have hz2_4 : w2.heap.size < w4.heap.size := by have := hb.size; (try simp at this); omega
  have hn2_4 : w2.heap.size ≠ w4.heap.size := by omega
  have hz3_4 : w3.heap.size < w4.heap.size := by have := hb.size; (try simp at this); omega
  have hn3_4 : w3.heap.size ≠ w4.heap.size := by omega
  have c4_2_0 : w4.cell? ⟨w2.heap.size, 0, none⟩ = some (.float .f64 p) := (hc _ _ (by first | assumption | (simp; done) | (simp; omega))).trans (by simp [go_sem, *])
  have c4_2_1 : w4.cell? ⟨w2.heap.size, 1, none⟩ = some (.float .f64 0) := (hc _ _ (by first | assumption | (simp; done) | (simp; omega))).trans (by simp [go_sem, *])
  have c4_2_2 : w4.cell? ⟨w2.heap.size, 2, none⟩ = some (.int .i64 hz) := (hc _ _ (by first | assumption | (simp; done) | (simp; omega))).trans (by simp [go_sem, *])
  have c4_3_0 : w4.cell? ⟨w3.heap.size, 0, none⟩ = some (.int .i64 1) := (hc _ _ (by first | assumption | (simp; done) | (simp; omega))).trans (by simp [go_sem, *])
  have c4_3_1 : w4.cell? ⟨w3.heap.size, 1, none⟩ = some (.int .i64 0) := (hc _ _ (by first | assumption | (simp; done) | (simp; omega))).trans (by simp [go_sem, *])
  clear hb hc hf
  go_wp2_with fail
  refine (K3.out _ (HT.out.later Hb4.out)).mono ?_
  rintro e w6 ⟨rfl, hb⟩
  have Hb6 := Lib.hid (Hb4.out.trans (hb.mono Hb4.out.size))
  obtain ⟨hc, hf⟩ := bcell hb
  have hz2_6 : w2.heap.size < w6.heap.size := by have := hb.size; (try simp at this); omega
  have hn2_6 : w2.heap.size ≠ w6.heap.size := by omega
  have hz3_6 : w3.heap.size < w6.heap.size := by have := hb.size; (try simp at this); omega
  have hn3_6 : w3.heap.size ≠ w6.heap.size := by omega
  have c6_2_0 : w6.cell? ⟨w2.heap.size, 0, none⟩ = some (.float .f64 p) := (hc _ _ (by first | assumption | (simp; done) | (simp; omega))).trans (by simp [go_sem, *])
  have c6_2_1 : w6.cell? ⟨w2.heap.size, 1, none⟩ = some (.float .f64 0) := (hc _ _ (by first | assumption | (simp; done) | (simp; omega))).trans (by simp [go_sem, *])
  have c6_2_2 : w6.cell? ⟨w2.heap.size, 2, none⟩ = some (.int .i64 hz) := (hc _ _ (by first | assumption | (simp; done) | (simp; omega))).trans (by simp [go_sem, *])
  have c6_3_0 : w6.cell? ⟨w3.heap.size, 0, none⟩ = some (.int .i64 1) := (hc _ _ (by first | assumption | (simp; done) | (simp; omega))).trans (by simp [go_sem, *])
  have c6_3_1 : w6.cell? ⟨w3.heap.size, 1, none⟩ = some (.int .i64 0) := (hc _ _ (by first | assumption | (simp; done) | (simp; omega))).trans (by simp [go_sem, *])
  clear hb hc hf
  go_wp2_with fail
  go_ret
  exact ⟨rfl, Hb6.out.alloc Hb6.out.size _⟩

set_option maxRecDepth 100000 in
set_option maxHeartbeats 16000000 in
theorem never_big_gt (p x : Nat) (hz : Int) (w : World) (hT : Tab w)
    (k0 : ∀ v, Tab v → Calls Tryd.prog 17 #[rateV p 0 hz] v (OfRes v 1 0 0))
    (k1 : ∀ v, Calls Tryd.prog 24 #[limV 1 0, .int .i64 hz] v (FE v x 0))
    (hb1 : (FloatKind.f64.format.order p 9110782046170513408 == some .gt) = true) (hb2 : (FloatKind.f64.format.order p 9110782046170513408 == some .eq) = false) :
    Calls Tryd.prog 7 #[.int .u64 p, .int .i64 hz] w fun e w' => e = .returned (.bool true) ∧ Below w.heap.size w w' := by
  have HT := Lib.hid hT
  have Ka := Lib.hid (fun v h => awake4 v h)
  have Kf := Lib.hid (fun v => of4_any p 0 hz v)
  unfold OfRes rateV limV FE at *
  have K0 := Lib.hid k0; have K1 := Lib.hid k1; clear k0 k1
  clear hT
  go_enter Tryd.func7, Tryd.ntmps7
  go_wp2_with fail
  refine (Ka.out _ HT.out).mono ?_
  rintro e w1 ⟨rfl, hb1⟩
  have Hb1 := Lib.hid hb1
  clear hb1
  go_wp2_with fail
  refine (Kf.out _).mono ?_
  rintro e w2 ⟨rfl, hb⟩
  have Hb2 := Lib.hid (Hb1.out.trans (hb.mono Hb1.out.size))
  clear hb
  go_wp2_with fail
  have HA3 := Lib.hid (fun o => Hb2.out.alloc Hb2.out.size o)
  refine (K0.out _ (HT.out.later (HA3.out _))).mono ?_
  rintro e w3 ⟨rfl, hb⟩
  have Hb3 := Lib.hid ((HA3.out _).trans (hb.mono (HA3.out _).size))
  obtain ⟨hc, hf⟩ := bcell hb
  have hz2_3 : w2.heap.size < w3.heap.size := by have := hb.size; (try simp at this); omega
  have hn2_3 : w2.heap.size ≠ w3.heap.size := by omega
  have c3_2_0 : w3.cell? ⟨w2.heap.size, 0, none⟩ = some (.float .f64 p) := (hc _ _ (by first | assumption | (simp; done) | (simp; omega))).trans (by simp [go_sem, *])
  have c3_2_1 : w3.cell? ⟨w2.heap.size, 1, none⟩ = some (.float .f64 0) := (hc _ _ (by first | assumption | (simp; done) | (simp; omega))).trans (by simp [go_sem, *])
  have c3_2_2 : w3.cell? ⟨w2.heap.size, 2, none⟩ = some (.int .i64 hz) := (hc _ _ (by first | assumption | (simp; done) | (simp; omega))).trans (by simp [go_sem, *])
  clear hb hc hf
  go_wp2_with fail
  have HA4 := Lib.hid (fun o => Hb3.out.alloc Hb3.out.size o)
  refine (K1.out _).mono ?_
  rintro e w4 ⟨rfl, hb⟩
  have Hb4 := Lib.hid ((HA4.out _).trans (hb.mono (HA4.out _).size))
  obtain ⟨hc, hf⟩ := bcell hb
  have hz2_4 : w2.heap.size < w4.heap.size := by have := hb.size; (try simp at this); omega
  have hn2_4 : w2.heap.size ≠ w4.heap.size := by omega
  have hz3_4 : w3.heap.size < w4.heap.size := by have := hb.size; (try simp at this); omega
  have hn3_4 : w3.heap.size ≠ w4.heap.size := by omega
  have c4_2_0 : w4.cell? ⟨w2.heap.size, 0, none⟩ = some (.float .f64 p) := (hc _ _ (by first | assumption | (simp; done) | (simp; omega))).trans (by simp [go_sem, *])
  have c4_2_1 : w4.cell? ⟨w2.heap.size, 1, none⟩ = some (.float .f64 0) := (hc _ _ (by first | assumption | (simp; done) | (simp; omega))).trans (by simp [go_sem, *])
  have c4_2_2 : w4.cell? ⟨w2.heap.size, 2, none⟩ = some (.int .i64 hz) := (hc _ _ (by first | assumption | (simp; done) | (simp; omega))).trans (by simp [go_sem, *])
  have c4_3_0 : w4.cell? ⟨w3.heap.size, 0, none⟩ = some (.int .i64 1) := (hc _ _ (by first | assumption | (simp; done) | (simp; omega))).trans (by simp [go_sem, *])
  have c4_3_1 : w4.cell? ⟨w3.heap.size, 1, none⟩ = some (.int .i64 0) := (hc _ _ (by first | assumption | (simp; done) | (simp; omega))).trans (by simp [go_sem, *])
  clear hb hc hf
  go_wp2_with fail
  go_ret
  exact ⟨rfl, Hb4.out⟩

set_option maxRecDepth 100000 in
set_option maxHeartbeats 16000000 in
theorem never_big_eq (p x : Nat) (hz : Int) (w : World) (hT : Tab w)
    (k0 : ∀ v, Tab v → Calls Tryd.prog 17 #[rateV p 0 hz] v (OfRes v 1 0 0))
    (k1 : ∀ v, Calls Tryd.prog 24 #[limV 1 0, .int .i64 hz] v (FE v x 0))
    (hb1 : (FloatKind.f64.format.order p 9110782046170513408 == some .gt) = false) (hb2 : (FloatKind.f64.format.order p 9110782046170513408 == some .eq) = true) :
    Calls Tryd.prog 7 #[.int .u64 p, .int .i64 hz] w fun e w' => e = .returned (.bool true) ∧ Below w.heap.size w w' := by
  have HT := Lib.hid hT
  have Ka := Lib.hid (fun v h => awake4 v h)
  have Kf := Lib.hid (fun v => of4_any p 0 hz v)
  unfold OfRes rateV limV FE at *
  have K0 := Lib.hid k0; have K1 := Lib.hid k1; clear k0 k1
  clear hT
  go_enter Tryd.func7, Tryd.ntmps7
  go_wp2_with fail
  refine (Ka.out _ HT.out).mono ?_
  rintro e w1 ⟨rfl, hb1⟩
  have Hb1 := Lib.hid hb1
  clear hb1
  go_wp2_with fail
  refine (Kf.out _).mono ?_
  rintro e w2 ⟨rfl, hb⟩
  have Hb2 := Lib.hid (Hb1.out.trans (hb.mono Hb1.out.size))
  clear hb
  go_wp2_with fail
  have HA3 := Lib.hid (fun o => Hb2.out.alloc Hb2.out.size o)
  refine (K0.out _ (HT.out.later (HA3.out _))).mono ?_
  rintro e w3 ⟨rfl, hb⟩
  have Hb3 := Lib.hid ((HA3.out _).trans (hb.mono (HA3.out _).size))
  obtain ⟨hc, hf⟩ := bcell hb
  have hz2_3 : w2.heap.size < w3.heap.size := by have := hb.size; (try simp at this); omega
  have hn2_3 : w2.heap.size ≠ w3.heap.size := by omega
  have c3_2_0 : w3.cell? ⟨w2.heap.size, 0, none⟩ = some (.float .f64 p) := (hc _ _ (by first | assumption | (simp; done) | (simp; omega))).trans (by simp [go_sem, *])
  have c3_2_1 : w3.cell? ⟨w2.heap.size, 1, none⟩ = some (.float .f64 0) := (hc _ _ (by first | assumption | (simp; done) | (simp; omega))).trans (by simp [go_sem, *])
  have c3_2_2 : w3.cell? ⟨w2.heap.size, 2, none⟩ = some (.int .i64 hz) := (hc _ _ (by first | assumption | (simp; done) | (simp; omega))).trans (by simp [go_sem, *])
  clear hb hc hf
  go_wp2_with fail
  have HA4 := Lib.hid (fun o => Hb3.out.alloc Hb3.out.size o)
  refine (K1.out _).mono ?_
  rintro e w4 ⟨rfl, hb⟩
  have Hb4 := Lib.hid ((HA4.out _).trans (hb.mono (HA4.out _).size))
  obtain ⟨hc, hf⟩ := bcell hb
  have hz2_4 : w2.heap.size < w4.heap.size := by have := hb.size; (try simp at this); omega
  have hn2_4 : w2.heap.size ≠ w4.heap.size := by omega
  have hz3_4 : w3.heap.size < w4.heap.size := by have := hb.size; (try simp at this); omega
  have hn3_4 : w3.heap.size ≠ w4.heap.size := by omega
  have c4_2_0 : w4.cell? ⟨w2.heap.size, 0, none⟩ = some (.float .f64 p) := (hc _ _ (by first | assumption | (simp; done) | (simp; omega))).trans (by simp [go_sem, *])
  have c4_2_1 : w4.cell? ⟨w2.heap.size, 1, none⟩ = some (.float .f64 0) := (hc _ _ (by first | assumption | (simp; done) | (simp; omega))).trans (by simp [go_sem, *])
  have c4_2_2 : w4.cell? ⟨w2.heap.size, 2, none⟩ = some (.int .i64 hz) := (hc _ _ (by first | assumption | (simp; done) | (simp; omega))).trans (by simp [go_sem, *])
  have c4_3_0 : w4.cell? ⟨w3.heap.size, 0, none⟩ = some (.int .i64 1) := (hc _ _ (by first | assumption | (simp; done) | (simp; omega))).trans (by simp [go_sem, *])
  have c4_3_1 : w4.cell? ⟨w3.heap.size, 1, none⟩ = some (.int .i64 0) := (hc _ _ (by first | assumption | (simp; done) | (simp; omega))).trans (by simp [go_sem, *])
  clear hb hc hf
  go_wp2_with fail
  go_ret
  exact ⟨rfl, Hb4.out⟩
end Go.Proofs.YtbpldplbkmabmaaDoor
