/- Contracts of spigotref08.Same and the law's same, made. -/
import Derived.Test.YtecbbdbeihiioaaMtD
namespace Go.Proofs.Ytecbbdbeihiioaa
open Go.RowKit
set_option linter.unusedVariables false

theorem quiet_left {P : Program} {f : FuncId} {args : Array Value} {w : World} {n : Nat} {v : Value}
    (h : Calls P f args (w.drewN n) fun e w' => e = .returned v ∧ w.drewN n = w') : Calls P f args (w.drewN n) fun e w'' => e = .returned v ∧ ∃ m, w'' = w.drewN m :=
  h.mono fun _ _ ⟨he, hm⟩ => ⟨he, n, hm.symm⟩

set_option maxRecDepth 100000 in
set_option maxHeartbeats 4000000 in
theorem rsame_core (N B : Int) (a1 a2 a3 a4 a5 a6 b1 b2 b3 b4 b5 b6 : Nat) (w : World)
    (h1 : (rk a1 == rk b1) = true) (h2 : (rk a2 == rk b2) = true) (h3 : (rk a3 == rk b3) = true) (h4 : (rk a4 == rk b4) = true) (h5 : (rk a5 == rk b5) = true) (h6 : (rk a6 == rk b6) = true) :
    Calls Try.prog 35 #[.agg #[.int .i64 N, .int .i64 B, .float .f64 a1, .float .f64 a2, .float .f64 a3, .float .f64 a4, .float .f64 a5, .float .f64 a6], .agg #[.int .i64 N, .int .i64 B, .float .f64 b1, .float .f64 b2, .float .f64 b3, .float .f64 b4, .float .f64 b5, .float .f64 b6]] w
      fun e w' => e = .returned (.bool true) ∧ Below w.heap.size w w' := by
  have K1 := Lib.hid (fun v => rsame_any a1 b1 v)
  have K2 := Lib.hid (fun v => rsame_any a2 b2 v)
  have K3 := Lib.hid (fun v => rsame_any a3 b3 v)
  have K4 := Lib.hid (fun v => rsame_any a4 b4 v)
  have K5 := Lib.hid (fun v => rsame_any a5 b5 v)
  have K6 := Lib.hid (fun v => rsame_any a6 b6 v)
  rw [h1] at K1; rw [h2] at K2; rw [h3] at K3; rw [h4] at K4; rw [h5] at K5; rw [h6] at K6
  clear h1 h2 h3 h4 h5 h6
  go_enter Try.func35, Try.ntmps35
  go_wp2_with (first | (go_at_call 15; (with_reducible refine (K1.out _).mono ?_); rintro e w' ⟨rfl, rfl⟩) | (go_at_call 15; (with_reducible refine (K2.out _).mono ?_); rintro e w' ⟨rfl, rfl⟩) | (go_at_call 15; (with_reducible refine (K3.out _).mono ?_); rintro e w' ⟨rfl, rfl⟩) | (go_at_call 15; (with_reducible refine (K4.out _).mono ?_); rintro e w' ⟨rfl, rfl⟩) | (go_at_call 15; (with_reducible refine (K5.out _).mono ?_); rintro e w' ⟨rfl, rfl⟩) | (go_at_call 15; (with_reducible refine (K6.out _).mono ?_); rintro e w' ⟨rfl, rfl⟩))
  go_ret
  exact ⟨rfl, ((Below.refl _ _).alloc (Nat.le_refl _) _).alloc (by simp) _⟩

theorem rsame_mt (a b : Mt) (w : World) (ha : a.Ok) (hb : b.Ok) (h : mtSim a b) :
    Calls Try.prog 35 #[mtV a, mtV b] w fun e w' => e = .returned (.bool true) ∧ Below w.heap.size w w' := by
  obtain ⟨N, B, a1, a2, a3, a4, a5, a6⟩ := a
  obtain ⟨N', B', b1, b2, b3, b4, b5, b6⟩ := b
  obtain ⟨e1, e2, h1, h2, h3, h4, h5, h6⟩ := h
  obtain ⟨x1, x2, x3, x4, x5, x6⟩ := ha
  obtain ⟨y1, y2, y3, y4, y5, y6⟩ := hb
  simp only at e1 e2
  subst e1 e2
  refine rsame_core N B a1 a2 a3 a4 a5 a6 b1 b2 b3 b4 b5 b6 w ?_ ?_ ?_ ?_ ?_ ?_
  · exact beq_iff_eq.2 ((nfW_rk x1 y1).1 h1)
  · exact beq_iff_eq.2 ((nfW_rk x2 y2).1 h2)
  · exact beq_iff_eq.2 ((nfW_rk x3 y3).1 h3)
  · exact beq_iff_eq.2 ((nfW_rk x4 y4).1 h4)
  · exact beq_iff_eq.2 ((nfW_rk x5 y5).1 h5)
  · exact beq_iff_eq.2 ((nfW_rk x6 y6).1 h6)

theorem same_mt (a b : Mt) (w : World) (ha : a.Ok) (hb : b.Ok) (h : mtSim a b) :
    Calls Try.prog 17 #[mtV a, mtV b] w fun e w' => e = .returned (.bool true) ∧ Below w.heap.size w w' := by
  have k := fun v => rsame_mt a b v ha hb h
  unfold mtV at *
  have K := Lib.hid k
  clear k h ha hb
  go_enter Try.func17, Try.ntmps17
  go_wp2_with fail
  refine (K.out _).mono ?_
  rintro e w1 ⟨rfl, hb⟩
  have Hb := Lib.hid hb
  clear hb
  go_wp2
  go_ret
  exact ⟨rfl, by first | exact Hb.out | exact below_past Hb.out | exact below_past (below_past Hb.out)⟩
end Go.Proofs.Ytecbbdbeihiioaa
