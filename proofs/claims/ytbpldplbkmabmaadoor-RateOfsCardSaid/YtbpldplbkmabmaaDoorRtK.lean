/- RateOfs' walks. Printed by gen_ofs.py. -/
import Derived.Test.YtbpldplbkmabmaaDoorRtJ
namespace Go.Proofs.YtbpldplbkmabmaaDoor
open Go.RowKit
set_option linter.unusedVariables false

attribute [local go_sem] run_store_float'

set_option maxRecDepth 100000 in
set_option maxHeartbeats 8000000 in
theorem ofs_zero (p b : Nat) (hz T tau : Int) (w : World) (hT : Tab w)
    (k1 : ∀ v, Tab v → Calls Tryd.prog 17 #[rateV p b hz] v (OfRes v T tau 0))
    (k2 : ∀ v, Calls Tryd.prog 18 #[rateV p b hz] v (OfRes v T tau 0))
    (k3 : ∀ v, Calls Tryd.prog 20 #[limV T tau] v (IntRes v 0)) :
    Calls Tryd.prog 3 #[.int .u64 p, .int .u64 b, .int .i64 hz] w fun e w' => e = .returned (.bool true) ∧ Below w.heap.size w w' := by
  have HT := Lib.hid hT
  have Ka := Lib.hid (fun v h => awake4 v h)
  have Kf := Lib.hid (fun v => of4_any p b hz v)
  unfold OfRes rateV limV at *
  have K1 := Lib.hid k1; have K2 := Lib.hid k2; have K3 := Lib.hid k3
  clear k1 k2 k3 hT
  go_enter Tryd.func3, Tryd.ntmps3
  go_wp2_with fail
  refine (Kf.out _).mono ?_
  rintro e w1 ⟨rfl, hb1⟩
  have Hb1 := Lib.hid hb1
  clear hb1
  go_wp2_with fail
  have HA := Lib.hid (Hb1.out.alloc Hb1.out.size (.cells #[.float .f64 p, .float .f64 b, .int .i64 hz] 25))
  refine (K1.out _ (HT.out.later HA.out)).mono ?_
  rintro e w2 ⟨rfl, hb⟩
  have Hb2 := Lib.hid (HA.out.trans (hb.mono HA.out.size))
  obtain ⟨hc, hf⟩ := bcell hb
  have hz1 : w1.heap.size < w2.heap.size := by have := hb.size; simp at this; omega
  clear hb
  go_wp2_with fail
  refine (K2.out _).mono ?_
  rintro e w3 ⟨rfl, hb⟩
  have Hb3 := Lib.hid (Hb2.out.trans ((below_past hb).mono Hb2.out.size))
  obtain ⟨hc', hf'⟩ := bcell hb
  have hz2 : w2.heap.size < w3.heap.size := by have := hb.size; simp at this; omega
  clear hb
  go_wp2_with fail
  have HB := Lib.hid (Hb3.out.alloc Hb3.out.size (.cells #[.int .i64 T, .int .i64 tau] 28))
  refine (Ka.out _ (HT.out.later HB.out)).mono ?_
  rintro e w4 ⟨rfl, hb⟩
  have Hb4 := Lib.hid (HB.out.trans (hb.mono HB.out.size))
  obtain ⟨hc'', hf''⟩ := bcell hb
  have hz3 : w3.heap.size < w4.heap.size := by have := hb.size; simp at this; omega
  clear hb
  go_wp2_with fail
  refine (K3.out _).mono ?_
  rintro e w5 ⟨rfl, hb⟩
  have Hb5 := Lib.hid (Hb4.out.trans (hb.mono Hb4.out.size))
  clear hb
  go_wp2
  go_ret
  exact ⟨rfl, Hb5.out⟩


set_option maxRecDepth 100000 in
set_option maxHeartbeats 8000000 in
theorem ofs_some (p b : Nat) (hz T tau f : Int) (w : World) (hT : Tab w) (hf : (f == 0) = false) (hf2 : (f != 0) = true)
    (k1 : ∀ v, Tab v → Calls Tryd.prog 17 #[rateV p b hz] v (OfRes v T tau f))
    (k2 : ∀ v, Calls Tryd.prog 18 #[rateV p b hz] v (OfRes v T tau f)) :
    Calls Tryd.prog 3 #[.int .u64 p, .int .u64 b, .int .i64 hz] w fun e w' => e = .returned (.bool true) ∧ Below w.heap.size w w' := by
  have HT := Lib.hid hT
  have Ka := Lib.hid (fun v h => awake4 v h)
  have Kf := Lib.hid (fun v => of4_any p b hz v)
  unfold OfRes rateV limV at *
  have K1 := Lib.hid k1; have K2 := Lib.hid k2
  clear k1 k2 hT
  go_enter Tryd.func3, Tryd.ntmps3
  go_wp2_with fail
  refine (Kf.out _).mono ?_
  rintro e w1 ⟨rfl, hb1⟩
  have Hb1 := Lib.hid hb1
  clear hb1
  go_wp2_with fail
  have HA := Lib.hid (Hb1.out.alloc Hb1.out.size (.cells #[.float .f64 p, .float .f64 b, .int .i64 hz] 25))
  refine (K1.out _ (HT.out.later HA.out)).mono ?_
  rintro e w2 ⟨rfl, hb⟩
  have Hb2 := Lib.hid (HA.out.trans (hb.mono HA.out.size))
  obtain ⟨hc, hf⟩ := bcell hb
  have hz1 : w1.heap.size < w2.heap.size := by have := hb.size; simp at this; omega
  clear hb
  go_wp2_with fail
  refine (K2.out _).mono ?_
  rintro e w3 ⟨rfl, hb⟩
  have Hb3 := Lib.hid (Hb2.out.trans ((below_past hb).mono Hb2.out.size))
  obtain ⟨hc', hf'⟩ := bcell hb
  have hz2 : w2.heap.size < w3.heap.size := by have := hb.size; simp at this; omega
  clear hb
  go_wp2_with fail
  have HB := Lib.hid (Hb3.out.alloc Hb3.out.size (.cells #[.int .i64 T, .int .i64 tau] 28))
  refine (Ka.out _ (HT.out.later HB.out)).mono ?_
  rintro e w4 ⟨rfl, hb⟩
  have Hb4 := Lib.hid (HB.out.trans (hb.mono HB.out.size))
  obtain ⟨hc'', hf''⟩ := bcell hb
  have hz3 : w3.heap.size < w4.heap.size := by have := hb.size; simp at this; omega
  clear hb
  go_wp2
  go_ret
  exact ⟨rfl, Hb4.out⟩


/-- What Of answers is a limit. -/
theorem rt_limB (p b : Nat) (hz : Int) (h : rtE p b hz = 0) : limB (rtLT p b hz) (rtLS p b hz) = true := by
  have hC : rtC p b hz = 0 := by
    refine Decidable.byContradiction fun hn => ?_
    have := (rt_bad hn).1; omega
  have h1 : rtU p hz ≤ 4611686018427387903 := by
    refine Decidable.byContradiction fun hn => ?_
    have := (rt_big hC hn).1; omega
  have h2 : rtS p b hz ≤ 4611686018427387903 := by
    refine Decidable.byContradiction fun hn => ?_
    have := (rt_wide hC h1 hn).1; omega
  obtain ⟨-, e1, e2⟩ := rt_some hC h1 h2
  have e3 : rtT p hz = max (rtU p hz) 1 := rfl
  rw [e1, e2]
  unfold limB
  rw [tickB_mk (by omega) (by omega), tickB_mk (by omega) (by omega), decide_eq_true (by omega)]
  rfl
end Go.Proofs.YtbpldplbkmabmaaDoor
