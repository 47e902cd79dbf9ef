/- RealExact's walks. Printed by gen_exact.py. -/
import Derived.Test.YtbpldplbkmabmaaDoorFlL
import Derived.Test.YtbpldplbkmabmaaDoorRlJ
import Derived.Test.YtbpldplbkmabmaaDoorRlI
namespace Go.Proofs.YtbpldplbkmabmaaDoor
open Go.RowKit
set_option linter.unusedVariables false

theorem ldexp_none (w : World) :
    Calls Tryd.prog 43 #[.float .f64 0, .int .i64 0] w fun e w' => e = .returned (.float .f64 0) ∧ w = w' := by
  have K : ∀ v, Calls Tryd.prog 82 #[.float .f64 0, .int .i64 0] v fun e w' => e = .returned (.float .f64 0) ∧ v = w' := by
    intro v
    have h0 : (FloatKind.f64.format.order 0 0 == some .eq) = true := by decide
    go_enter Tryd.func82, Tryd.ntmps82
    go_wp2
    go_ret
    exact ⟨rfl, rfl⟩
  have HK := Lib.hid K
  go_enter Tryd.func43, Tryd.ntmps43
  go_wp2_with (go_at_call 82; (with_reducible refine (HK.out _).mono ?_); rintro e w' ⟨rfl, rfl⟩)
  go_ret
  exact ⟨rfl, rfl⟩

set_option maxRecDepth 100000 in
set_option maxHeartbeats 8000000 in
theorem exact_law_bad (n0 : Int) (N x b : Nat) (s : Bool) (o : Nat) (p : Int) (f : Nat) (w : World) (hT : Tab w) (hb : b < 18446744073709551616) (hx : x < 9218868437227405312)
    (hand : bits .and .i64 n0 9007199254740991 = (N : Int)) (hfl : floatOfInt .f64 (N : Int) = x)
    (k1 : ∀ v, Calls Tryd.prog 39 #[.int .i64 (N : Int), .int .i64 1] v (FE v x 0))
    (k2 : ∀ v, Tab v → Calls Tryd.prog 37 #[.float .f64 x, .int .i64 1, .int .i64 2] v (TwoRes v (N : Int) 0))
    (k3 : ∀ v, Tab v → Calls Tryd.prog 30 #[.float .f64 b] v (ExactRes v s o p f))
    (hs : s = false) (ho : o = 0) (hp : p = 0) (hf : f ≠ 0) (hk : 2 < kindN (rg b)) :
    Calls Tryd.prog 12 #[.int .u64 b, .int .i64 n0] w fun e w' => e = .returned (.bool true) ∧ Below w.heap.size w w' := by
  have HT := Lib.hid hT
  have Ka := Lib.hid (fun v h => awake3 v h)
  have Ko := Lib.hid (fun v => of3_any b v)
  have km := fun v => minus_real x v (by omega)
  rw [sgn_pos (show x < 9223372036854775808 by omega)] at km
  have Km := Lib.hid km
  have hxx : (FloatKind.f64.format.order x x != some .eq) = false := by
    rw [bne, ford_self _ (by omega), rg_pos (by omega), decide_eq_true (by omega)]; rfl
  have Kk := Lib.hid (fun v => kind_any b v hb)
  unfold FE at k1
  unfold TwoRes at k2
  unfold ExactRes at k3
  have K1 := Lib.hid k1
  have K2 := Lib.hid k2
  have K3 := Lib.hid k3
  clear k1 k2 k3 km hT hx hb
  subst hs ho hp
  have hk2 : (2 : Int) < (kindN (rg b) : Int) := by omega
  have hf2 : ((f : Int) != 0) = true := by rw [bne_iff_ne]; omega
  generalize kindN (rg b) = k at *
  clear hf hk
  · go_enter Tryd.func12, Tryd.ntmps12
    go_wp2_with fail
    with_reducible refine (Ka.out _ HT.out).mono ?_
    rintro e1 w1 ⟨rfl, hb1⟩
    have Hb1 := Lib.hid hb1
    clear hb1
    go_wp2_with fail
    with_reducible refine (K1.out _).mono ?_
    rintro e1 w2 ⟨rfl, hb2⟩
    have Hb2 := Lib.hid (Hb1.out.trans (hb2.mono Hb1.out.size))
    clear hb2
    go_wp2_with fail
    with_reducible refine (K2.out _ (HT.out.later Hb2.out)).mono ?_
    rintro e1 w3 ⟨rfl, hb3⟩
    have Hb3 := Lib.hid (Hb2.out.trans (hb3.mono Hb2.out.size))
    clear hb3
    go_wp2_with (go_at_call 35; (with_reducible refine (Km.out _).mono ?_); rintro e1 w' ⟨rfl, rfl⟩)
    with_reducible refine (Ko.out _).mono ?_
    rintro e1 w' ⟨rfl, rfl⟩
    go_wp2_with fail
    with_reducible refine (K3.out _ (HT.out.later Hb3.out)).mono ?_
    rintro e1 w4 ⟨rfl, n1, rfl⟩
    have Hb4 := Lib.hid (below_drewN Hb3.out n1)
    go_wp2_with ((go_at_call 33; (with_reducible refine (Kk.out _).mono ?_); rintro e1 w' ⟨rfl, rfl⟩))
    go_ret
    exact ⟨rfl, Hb4.out⟩

set_option maxRecDepth 100000 in
set_option maxHeartbeats 8000000 in
theorem exact_law_some (n0 : Int) (N x b : Nat) (s : Bool) (o : Nat) (p : Int) (f : Nat) (w : World) (hT : Tab w) (hb : b < 18446744073709551616) (hx : x < 9218868437227405312)
    (hand : bits .and .i64 n0 9007199254740991 = (N : Int)) (hfl : floatOfInt .f64 (N : Int) = x)
    (k1 : ∀ v, Calls Tryd.prog 39 #[.int .i64 (N : Int), .int .i64 1] v (FE v x 0))
    (k2 : ∀ v, Tab v → Calls Tryd.prog 37 #[.float .f64 x, .int .i64 1, .int .i64 2] v (TwoRes v (N : Int) 0))
    (k3 : ∀ v, Tab v → Calls Tryd.prog 30 #[.float .f64 b] v (ExactRes v s o p f))
    (fo R y : Nat) (hf : f = 0) (hfo : floatOfInt .f64 (o : Int) = fo)
    (k4 : ∀ v, Calls Tryd.prog 43 #[.float .f64 fo, .int .i64 p] v fun e w' => e = .returned (.float .f64 R) ∧ v = w')
    (hn : Op.unary .neg (.float .f64 R) = pure (.float .f64 y))
    (hs : (s = true ∧ rk b = rk y) ∨ (s = false ∧ rk b = rk R)) (ho : (o : Int) % 2 = 1 ∨ (o = 0 ∧ p = 0)) :
    Calls Tryd.prog 12 #[.int .u64 b, .int .i64 n0] w fun e w' => e = .returned (.bool true) ∧ Below w.heap.size w w' := by
  have HT := Lib.hid hT
  have Ka := Lib.hid (fun v h => awake3 v h)
  have Ko := Lib.hid (fun v => of3_any b v)
  have km := fun v => minus_real x v (by omega)
  rw [sgn_pos (show x < 9223372036854775808 by omega)] at km
  have Km := Lib.hid km
  have hxx : (FloatKind.f64.format.order x x != some .eq) = false := by
    rw [bne, ford_self _ (by omega), rg_pos (by omega), decide_eq_true (by omega)]; rfl
  have Kk := Lib.hid (fun v => kind_any b v hb)
  unfold FE at k1
  unfold TwoRes at k2
  unfold ExactRes at k3
  have K1 := Lib.hid k1
  have K2 := Lib.hid k2
  have K3 := Lib.hid k3
  clear k1 k2 k3 km hT hx hb
  subst hf
  have K4 := Lib.hid k4
  clear k4
  have ks1 := fun v => rsame_any b y v
  have ks2 := fun v => rsame_any b R v
  have cut : (s = true ∧ (rk b == rk y) = true) ∨ (s = false ∧ (rk b == rk R) = true) := by
    rcases hs with ⟨h1, h2⟩ | ⟨h1, h2⟩
    · exact Or.inl ⟨h1, by rw [h2]; exact beq_self_eq_true _⟩
    · exact Or.inr ⟨h1, by rw [h2]; exact beq_self_eq_true _⟩
  clear hs
  rcases cut with ⟨rfl, q⟩ | ⟨rfl, q⟩ <;> rcases ho with ho | ⟨rfl, rfl⟩
  all_goals
    first | (have hfo0 : floatOfInt .f64 0 = fo := hfo) | skip
    first | (rw [q] at ks1; have Ks := Lib.hid ks1; clear ks1 ks2 q) | (rw [q] at ks2; have Ks := Lib.hid ks2; clear ks1 ks2 q)
    go_enter Tryd.func12, Tryd.ntmps12
    go_wp2_with fail
    with_reducible refine (Ka.out _ HT.out).mono ?_
    rintro e1 w1 ⟨rfl, hb1⟩
    have Hb1 := Lib.hid hb1
    clear hb1
    go_wp2_with fail
    with_reducible refine (K1.out _).mono ?_
    rintro e1 w2 ⟨rfl, hb2⟩
    have Hb2 := Lib.hid (Hb1.out.trans (hb2.mono Hb1.out.size))
    clear hb2
    go_wp2_with fail
    with_reducible refine (K2.out _ (HT.out.later Hb2.out)).mono ?_
    rintro e1 w3 ⟨rfl, hb3⟩
    have Hb3 := Lib.hid (Hb2.out.trans (hb3.mono Hb2.out.size))
    clear hb3
    go_wp2_with (go_at_call 35; (with_reducible refine (Km.out _).mono ?_); rintro e1 w' ⟨rfl, rfl⟩)
    with_reducible refine (Ko.out _).mono ?_
    rintro e1 w' ⟨rfl, rfl⟩
    go_wp2_with fail
    with_reducible refine (K3.out _ (HT.out.later Hb3.out)).mono ?_
    rintro e1 w4 ⟨rfl, n1, rfl⟩
    have Hb4 := Lib.hid (below_drewN Hb3.out n1)
    go_wp2_with (first | (go_at_call 43; (with_reducible refine (K4.out _).mono ?_); rintro e1 w' ⟨rfl, rfl⟩) | (go_at_call 28; (with_reducible refine (Ks.out _).mono ?_); rintro e1 w' ⟨rfl, rfl⟩))
    go_ret
    exact ⟨rfl, Hb4.out⟩

end Go.Proofs.YtbpldplbkmabmaaDoor
