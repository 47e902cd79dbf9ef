/- MeterSmooths' walk. -/
import Derived.Test.YtecbbdbeihiioaaMtM
namespace Go.Proofs.Ytecbbdbeihiioaa
open Go.RowKit
set_option linter.unusedVariables false

set_option maxRecDepth 100000 in
set_option maxHeartbeats 4000000 in
theorem smooths_core (l x a y : Nat) (f : Int) (w : World)
    (k1 : ∀ w, Calls Try.prog 18 #[.float .f64 l, .float .f64 x, .float .f64 a] w (FlRes w y f))
    (k2 : ∀ w, Calls Try.prog 19 #[.float .f64 l, .float .f64 x, .float .f64 a] w (FlRes w y f)) :
    Calls Try.prog 4 #[.int .u64 l, .int .u64 x, .int .u64 a] w fun e w' => e = .returned (.bool true) ∧ Below w.heap.size w w' := by
  have Kl := Lib.hid (fun v => of_any l v)
  have Kx := Lib.hid (fun v => of_any x v)
  have Ka := Lib.hid (fun v => of_any a v)
  have K1 := Lib.hid k1
  have K2 := Lib.hid k2
  have Kw := Lib.hid (fun v => awake8 v)
  clear k1 k2
  go_enter Try.func4, Try.ntmps4
  go_wp2_with (go_at_call 16; (first | with_reducible refine (Kl.out _).mono ?_ | with_reducible refine (Kx.out _).mono ?_ | with_reducible refine (Ka.out _).mono ?_); rintro e w' ⟨rfl, rfl⟩)
  with_reducible refine (K1.out _).mono ?_
  rintro e w1 ⟨c1, n1, rfl, h1, b1, rfl⟩
  go_wp2_with (go_at_call 16; (first | with_reducible refine (Kl.out _).mono ?_ | with_reducible refine (Kx.out _).mono ?_ | with_reducible refine (Ka.out _).mono ?_); rintro e w' ⟨rfl, rfl⟩)
  with_reducible refine (K2.out _).mono ?_
  rintro e w2 ⟨c2, n2, rfl, h2, b2, rfl⟩
  have Ks := Lib.hid (fun v => rsame_any c1 c2 v)
  rw [show (rk c1 == rk c2) = true from beq_iff_eq.2 ((nfW_rk b1 b2).1 (h1.trans h2.symm))] at Ks
  clear h1 h2 b1 b2
  have Hb := Lib.hid (below_drewN (below_drewN (Below.refl w.heap.size w) n1) n2)
  go_wp2_with (first | (go_at_call 11; (with_reducible refine (Kw.out _).mono ?_); rintro e w3 ⟨rfl, hb⟩; have Hb3 := Lib.hid ((below_drewN (Below.refl w.heap.size w) _).trans hb); clear hb) | (go_at_call 15; (with_reducible refine (Ks.out _).mono ?_); rintro e w' ⟨rfl, rfl⟩))
  go_ret
  exact ⟨rfl, Hb3.out⟩
end Go.Proofs.Ytecbbdbeihiioaa
