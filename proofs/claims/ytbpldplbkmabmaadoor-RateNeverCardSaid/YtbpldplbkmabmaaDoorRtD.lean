/- Contracts of spigotlaw04's of and awake. -/
import Derived.Test.YtbpldplbkmabmaaDoorRtC
namespace Go.Proofs.YtbpldplbkmabmaaDoor
open Go.RowKit
set_option linter.unusedVariables false

@[local go_sem] theorem run_store_float' {P : Program} {w : World} {a : Addr} {m : Mode} (k : FloatKind) (n : Nat) : (store a (.float k n) m).run P w = stored P w a (.float k n) m := run_store P w a _ m rfl

theorem of4_any (p b : Nat) (hz : Int) (w : World) :
    Calls Tryd.prog 16 #[.int .u64 (p : Int), .int .u64 (b : Int), .int .i64 hz] w fun e w' => e = .returned (rateV p b hz) ∧ Below w.heap.size w w' := by
  have h1 := ext_from_eq p p rfl (w.alloc (.cells #[.float .f64 0, .float .f64 0, .int .i64 0] 25))
  have h2 := ext_from_eq b b rfl (w.alloc (.cells #[.float .f64 0, .float .f64 0, .int .i64 0] 25))
  unfold rateV
  go_enter Tryd.func16, Tryd.ntmps16
  go_wp2
  exact bodyPost_ret (v := .agg #[.float .f64 p, .float .f64 b, .int .i64 hz]) (by simp [results, Tryd.results16, go_sem]) rfl ⟨rfl, by repeat (first | exact Below.refl _ _ | (refine Below.setCell ?_ (by first | (simp; done) | (simp; omega)) _) | (refine Below.alloc ?_ (by first | (simp; done) | (simp; omega)) _))⟩

theorem awake_rate : rtLT 4612811918334230528 4613937818241073152 1000 = 400 ∧ rtLS 4612811918334230528 4613937818241073152 1000 = 1200 ∧ rtE 4612811918334230528 4613937818241073152 1000 = 0 := by
  have hU : rtU 4612811918334230528 1000 = 400 := by decide +kernel
  have hS : rtS 4612811918334230528 4613937818241073152 1000 = 1200 := by decide +kernel
  have h := rt_some (p := 4612811918334230528) (b := 4613937818241073152) (hz := 1000) (by decide +kernel) (by rw [hU]; decide) (by rw [hS]; decide)
  have hT : rtT 4612811918334230528 1000 = 400 := by unfold rtT; rw [hU]; decide
  rw [hT, hS] at h
  exact ⟨h.2.1, h.2.2, h.1⟩

set_option maxHeartbeats 4000000 in
theorem awake4 (w : World) (hT : Tab w) :
    Calls Tryd.prog 19 #[] w fun e w' => e = .returned (.bool true) ∧ Below w.heap.size w w' := by
  have HT := Lib.hid hT
  have kof := fun v h => of_any 4612811918334230528 4613937818241073152 1000 v (by decide) (by decide) h
  rw [awake_rate.1, awake_rate.2.1, awake_rate.2.2] at kof
  have Kon := Lib.hid (fun v => once_of 400 1200 4 0 v (fun v => within_yes 400 1200 0 v (by decide) (by decide)))
  have Ky := Lib.hid (fun v => rcheck_yes 400 1200 v (by decide))
  have Kn := Lib.hid (fun v => rcheck_no 0 0 v (by decide))
  unfold OfRes rateV at kof
  have Kof := Lib.hid kof
  unfold limV at *
  clear hT kof
  go_enter Tryd.func19, Tryd.ntmps19
  go_wp2_with fail
  refine (Kof.out _ HT.out).mono ?_
  rintro e w1 ⟨rfl, hb1⟩
  have Hb1 := Lib.hid hb1
  clear hb1
  go_wp2_with fail
  refine (Kon.out _).mono ?_
  rintro e w2 ⟨rfl, hb2⟩
  obtain ⟨hc, hf⟩ := bcell hb2
  have Hb2 := Lib.hid hb2
  clear hb2
  have hz1 : w1.heap.size < w2.heap.size := by have := Hb2.out.size; simp at this; omega
  have Hb3 := Lib.hid (Hb1.out.trans ((below_past Hb2.out).mono Hb1.out.size))
  go_wp2_with (first | (go_at_call 20; (with_reducible refine (Ky.out _).mono ?_); rintro e w3 ⟨rfl, hb3⟩; have Hb4 := Lib.hid (Hb3.out.trans (hb3.mono Hb3.out.size)); clear hb3) | (go_at_call 20; (with_reducible refine (Kn.out _).mono ?_); rintro e w4 ⟨rfl, hb4⟩; have Hb5 := Lib.hid (Hb4.out.trans (hb4.mono Hb4.out.size)); clear hb4))
  go_ret
  exact ⟨rfl, Hb5.out⟩
end Go.Proofs.YtbpldplbkmabmaaDoor
