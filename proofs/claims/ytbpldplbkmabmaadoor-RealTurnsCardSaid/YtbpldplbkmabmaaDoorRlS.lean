/- RealTurns' walk. -/
import Derived.Test.YtbpldplbkmabmaaDoorFlK
import Derived.Test.YtbpldplbkmabmaaDoorRlJ
import Derived.Test.YtbpldplbkmabmaaDoorRlI
namespace Go.Proofs.YtbpldplbkmabmaaDoor
open Go.RowKit

set_option maxRecDepth 100000 in
set_option maxHeartbeats 8000000 in
theorem turns_zero (a0 b0 A : Int) (w : World) (hT : Tab w) (hA : a0 / 4 = A) (hB : b0 / 4 = 0)
    (k1 : ∀ v, Calls Tryd.prog 41 #[.int .i64 A, .int .i64 0] v (FE v 0 5)) :
    Calls Tryd.prog 13 #[.int .i64 a0, .int .i64 b0] w fun e w' => e = .returned (.bool true) ∧ Below w.heap.size w w' := by
  have HT := Lib.hid hT
  have Ka := Lib.hid (fun v h => awake3 v h)
  have Ks := Lib.hid (fun v => same_any 0 0 v (by decide) (by decide))
  unfold FE at k1
  have K1 := Lib.hid k1
  clear k1 hT
  go_enter Tryd.func13, Tryd.ntmps13
  go_wp2_with fail
  with_reducible refine (Ka.out _ HT.out).mono ?_
  rintro e1 w1 ⟨rfl, hb1⟩
  have Hb1 := Lib.hid hb1
  clear hb1
  go_wp2_with fail
  with_reducible refine (K1.out _).mono ?_
  rintro e1 w2 ⟨rfl, hb2⟩
  have Hb2 := Lib.hid (Hb1.out.trans (hb2.mono Hb1.out.size))
  clear hb2
  go_wp2_with (go_at_call 44; (with_reducible refine (Ks.out _).mono ?_); rintro e1 w' ⟨rfl, rfl⟩)
  go_ret
  exact ⟨rfl, Hb2.out⟩


set_option maxRecDepth 100000 in
set_option maxHeartbeats 16000000 in
theorem turns_some (a0 b0 A B : Int) (x z u y : Nat) (w : World) (hT : Tab w) (hA : a0 / 4 = A) (hB : b0 / 4 = B)
    (r1 : IntKind.i64.wrap (-A) = -A) (r2 : IntKind.i64.wrap (-B) = -B) (r3 : IntKind.i64.wrap (2 * A) = 2 * A) (r4 : IntKind.i64.wrap (2 * B) = 2 * B) (r5 : IntKind.i64.wrap (A + 1) = A + 1)
    (hb0 : B ≠ 0) (hx : x < 18446744073709551616) (hz : z < 18446744073709551616)
    (k1 : ∀ v, Calls Tryd.prog 41 #[.int .i64 A, .int .i64 B] v (FE v x 0))
    (k2 : ∀ v, Calls Tryd.prog 41 #[.int .i64 (-A), .int .i64 (-B)] v (FE v x 0))
    (k3 : ∀ v, Calls Tryd.prog 41 #[.int .i64 (-A), .int .i64 B] v (FE v z 0))
    (k4 : ∀ v, Calls Tryd.prog 41 #[.int .i64 (2 * A), .int .i64 (2 * B)] v (FE v x 0))
    (k5 : ∀ v, Calls Tryd.prog 41 #[.int .i64 B, .int .i64 B] v (FE v 4607182418800017408 0))
    (k6 : ∀ v, Calls Tryd.prog 41 #[.int .i64 (A + 1), .int .i64 B] v (FE v u 0))
    (hn : Op.unary .neg (.float .f64 x) = pure (.float .f64 y)) (hzy : (FloatKind.f64.format.order z y != some .eq) = false)
    (hs : (A ≠ 0) ∨ (A = 0 ∧ sgn x = false ∧ sgn z = false)) (L E G : Bool)
    (hL : (FloatKind.f64.format.order u x == some .lt) = L) (hE : (FloatKind.f64.format.order u x == some .eq) = E) (hG : (FloatKind.f64.format.order u x == some .gt) = G)
    (hq : (0 < B ∧ (G = true ∨ E = true)) ∨ (B < 0 ∧ (L = true ∨ E = true))) :
    Calls Tryd.prog 13 #[.int .i64 a0, .int .i64 b0] w fun e w' => e = .returned (.bool true) ∧ Below w.heap.size w w' := by
  have HT := Lib.hid hT
  have Ka := Lib.hid (fun v h => awake3 v h)
  have Ks := Lib.hid (fun v => same_any x x v hx hx)
  have Km := Lib.hid (fun v => minus_real x v hx)
  have Kn := Lib.hid (fun v => minus_real z v hz)
  simp only [beq_self_eq_true] at Ks
  have h1o : (FloatKind.f64.format.order 4607182418800017408 4607182418800017408 != some .eq) = false := by
    rw [bne, ford_self _ (by decide), decide_eq_true (by decide)]
    rfl
  unfold FE at k1 k2 k3 k4 k5 k6
  have K1 := Lib.hid k1
  have K2 := Lib.hid k2
  have K3 := Lib.hid k3
  have K4 := Lib.hid k4
  have K5 := Lib.hid k5
  have K6 := Lib.hid k6
  clear k1 k2 k3 k4 k5 k6 hT hx hz
  have cut : (A ≠ 0 ∨ (decide (A = 0) = true ∧ sgn x = false ∧ sgn z = false)) ∧ ((0 < B ∧ ((G = true ∧ E = true) ∨ (G = true ∧ E = false) ∨ (G = false ∧ E = true))) ∨ (B < 0 ∧ ((L = true ∧ E = true) ∨ (L = true ∧ E = false) ∨ (L = false ∧ E = true)))) := by
    refine ⟨hs.imp id fun h => ⟨decide_eq_true h.1, h.2⟩, ?_⟩
    clear hs
    cases G <;> cases L <;> cases E <;> simp_all
  clear hs hq
  rcases cut with ⟨s | ⟨s1, s2, s3⟩, ⟨q, ⟨rfl, rfl⟩ | ⟨rfl, rfl⟩ | ⟨rfl, rfl⟩⟩ | ⟨q, ⟨rfl, rfl⟩ | ⟨rfl, rfl⟩ | ⟨rfl, rfl⟩⟩⟩
  all_goals
    first | (simp only [s2] at Km; simp only [s3] at Kn) | skip
    go_enter Tryd.func13, Tryd.ntmps13
    go_wp2_with fail
    with_reducible refine (Ka.out _ HT.out).mono ?_
    rintro e1 w1 ⟨rfl, hb1⟩
    have Hb1 := Lib.hid hb1
    clear hb1
    go_wp2_with fail
    with_reducible refine (K1.out _).mono ?_
    rintro e1 w2 ⟨rfl, hb2⟩
    have Hb2 := Lib.hid (Hb1.out.trans (hb2.mono Hb1.out.size))
    clear hb2
    go_wp2_with fail
    with_reducible refine (K2.out _).mono ?_
    rintro e1 w3 ⟨rfl, hb3⟩
    have Hb3 := Lib.hid (Hb2.out.trans (hb3.mono Hb2.out.size))
    clear hb3
    go_wp2_with fail
    with_reducible refine (K3.out _).mono ?_
    rintro e1 w4 ⟨rfl, hb4⟩
    have Hb4 := Lib.hid (Hb3.out.trans (hb4.mono Hb3.out.size))
    clear hb4
    go_wp2_with fail
    with_reducible refine (K4.out _).mono ?_
    rintro e1 w5 ⟨rfl, hb5⟩
    have Hb5 := Lib.hid (Hb4.out.trans (hb5.mono Hb4.out.size))
    clear hb5
    go_wp2_with fail
    with_reducible refine (K5.out _).mono ?_
    rintro e1 w6 ⟨rfl, hb6⟩
    have Hb6 := Lib.hid (Hb5.out.trans (hb6.mono Hb5.out.size))
    clear hb6
    go_wp2_with fail
    with_reducible refine (K6.out _).mono ?_
    rintro e1 w7 ⟨rfl, hb7⟩
    have Hb7 := Lib.hid (Hb6.out.trans (hb7.mono Hb6.out.size))
    clear hb7
    go_wp2_with (first | (go_at_call 44; (with_reducible refine (Ks.out _).mono ?_); rintro e1 w' ⟨rfl, rfl⟩) | (go_at_call 35; (with_reducible refine (Km.out _).mono ?_); rintro e1 w' ⟨rfl, rfl⟩) | (go_at_call 35; (with_reducible refine (Kn.out _).mono ?_); rintro e1 w' ⟨rfl, rfl⟩))
    go_ret
    all_goals first | exact ⟨rfl, Hb7.out⟩ | (have := of_decide_eq_true s1; contradiction)
end Go.Proofs.YtbpldplbkmabmaaDoor
