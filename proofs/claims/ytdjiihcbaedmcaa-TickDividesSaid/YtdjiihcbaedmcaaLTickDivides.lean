/- TickDivides: for every input the law returns true, and its arguments read afterwards as they read before. No condition. -/
import Derived.Test.YtdjiihcbaedmcaaRows
import Derived.WalkKit
import Derived.ProofKit
import Derived.OpenShut
import Derived.Lib.SmallJoins
import Derived.Test.YtdjiihcbaedmcaaTickD
import Derived.Test.YtdjiihcbaedmcaaTickP
namespace Go.Proofs.Ytdjiihcbaedmcaa.tickDivides
open Go.ChangeShapes Go.WideShapes Go.ChangeAt Go.RowKit Go.Joins
set_option linter.unusedVariables false

theorem own : ownKnob Try.prog.godebug = none := by kernel_rfl

theorem bne_of {a b : Int} (h : a = b) : (a != b) = false := by simp [h]

set_option maxHeartbeats 1000000 in
theorem core (x y a c0 b : Int) (ta : tickB a = true) (tb : tickB b = true) (tc : tickB c0 = true) (b1 : 1 ≤ b) (hm : c0 < 1 ∧ b = 1 ∨ 1 ≤ c0 ∧ b = c0) (w : World)
    (kx : ∀ v, Calls Try.prog 20 #[.int .i64 x] v fun e w' => e = .returned (.int .i64 a) ∧ v = w')
    (ky : ∀ v, Calls Try.prog 20 #[.int .i64 y] v fun e w' => e = .returned (.int .i64 c0) ∧ v = w') :
    Calls Try.prog 8 #[.int .i64 x, .int .i64 y] w fun e w' => e = .returned (.bool true) ∧ Grown w w' := by
  have a0 := (tickB_yes ta).1
  have a1 := (tickB_yes ta).2
  have kd := fun v => div_yes a b v ta tb (by omega)
  have kc := fun v => ceil_yes a b v ta tb (by omega)
  obtain ⟨l0, l1, l2, l3, l4⟩ := ceil_law a b a0 a1 b1
  obtain ⟨q0, q1, r0, r1⟩ := div_tick a0 (b := b) (by omega)
  have em := Int.mul_ediv_add_emod a b
  have hs : (clampI (clampI (a / b * b) + a % b) != a) = false := by
    apply bne_of
    have e : a / b * b = a - a % b := by rw [Int.mul_comm]; omega
    have := Int.mul_nonneg q0 (show 0 ≤ b by omega)
    rw [e, clampI_pos (n := a - a % b) (by omega), clampI_pos (by omega)]
    omega
  have hl : (ceilI a b == a / b) = (a % b == 0) := by
    rw [Bool.eq_iff_iff]; simp only [beq_iff_eq]; exact l4
  clear em l4
  generalize ceilI a b = c at *
  generalize a / b = q at *
  generalize a % b = r at *
  have tcc : tickB c = true := tickB_mk l0 l1
  have tq : tickB q = true := tickB_mk q0 (by omega)
  have tr : tickB r = true := tickB_mk r0 (by have := (tickB_yes tb).2; omega)
  have Kx := Lib.hid kx; have Ky := Lib.hid ky; have Kd := Lib.hid kd; have Kc := Lib.hid kc
  clear kx ky kd kc
  by_cases hc : c = 0
  · subst hc
    have hl' : ((0 : Int) == q) = (r == 0) := hl
    have t0 : clampI 0 = 0 := by decide
    clear l3 hl
    rcases hm with ⟨hm, rfl⟩ | ⟨hm, rfl⟩
    · simp only [Int.mul_one] at hs l2
      rw [t0] at l2
      go_enter Try.func8, Try.ntmps8
      go_wp2_with (first | (go_at_call 17; with_reducible refine (awake1 _).mono ?_; rintro e w' ⟨rfl, n, rfl⟩) | (go_at_call 20; (first | (with_reducible refine (Kx.out _).mono ?_) | (with_reducible refine (Ky.out _).mono ?_)); rintro e w' ⟨rfl, rfl⟩) | (go_at_call 29; with_reducible refine (Kd.out _).mono ?_; rintro e w' ⟨rfl, n, rfl⟩) | (go_at_call 31; with_reducible refine (Kc.out _).mono ?_; rintro e w' ⟨rfl, n, rfl⟩) | (go_at_call 26; with_reducible refine (sum_yes _ _ _ (by first | assumption | exact tickB_clamp _) (by first | assumption | exact tickB_clamp _)).mono ?_; rintro e w' ⟨rfl, rfl⟩) | (go_at_call 27; with_reducible refine (product_yes _ _ _ (by first | assumption | exact tickB_clamp _) (by first | assumption | exact tickB_clamp _)).mono ?_; rintro e w' ⟨rfl, rfl⟩))
      go_ret
      exact ⟨rfl, by repeat (first | exact Grown.refl _ | apply Grown.drew | apply Grown.alloc)⟩
    · simp only [Int.zero_mul] at hs l2
      rw [t0] at l2
      go_enter Try.func8, Try.ntmps8
      go_wp2_with (first | (go_at_call 17; with_reducible refine (awake1 _).mono ?_; rintro e w' ⟨rfl, n, rfl⟩) | (go_at_call 20; (first | (with_reducible refine (Kx.out _).mono ?_) | (with_reducible refine (Ky.out _).mono ?_)); rintro e w' ⟨rfl, rfl⟩) | (go_at_call 29; with_reducible refine (Kd.out _).mono ?_; rintro e w' ⟨rfl, n, rfl⟩) | (go_at_call 31; with_reducible refine (Kc.out _).mono ?_; rintro e w' ⟨rfl, n, rfl⟩) | (go_at_call 26; with_reducible refine (sum_yes _ _ _ (by first | assumption | exact tickB_clamp _) (by first | assumption | exact tickB_clamp _)).mono ?_; rintro e w' ⟨rfl, rfl⟩) | (go_at_call 27; with_reducible refine (product_yes _ _ _ (by first | assumption | exact tickB_clamp _) (by first | assumption | exact tickB_clamp _)).mono ?_; rintro e w' ⟨rfl, rfl⟩))
      go_ret
      exact ⟨rfl, by repeat (first | exact Grown.refl _ | apply Grown.drew | apply Grown.alloc)⟩
  · have hc' : (c == 0) = false := beq_eq_false_iff_ne.2 hc
    have h3 := l3 (by omega)
    have c1 : 1 ≤ c := by omega
    have tc1 : tickB (c - 1) = true := tickB_mk (by omega) (by omega)
    clear l3 hc
    rcases hm with ⟨hm, rfl⟩ | ⟨hm, rfl⟩
    · simp only [Int.mul_one] at hs l2 h3
      go_enter Try.func8, Try.ntmps8
      go_wp2_with (first | (go_at_call 17; with_reducible refine (awake1 _).mono ?_; rintro e w' ⟨rfl, n, rfl⟩) | (go_at_call 20; (first | (with_reducible refine (Kx.out _).mono ?_) | (with_reducible refine (Ky.out _).mono ?_)); rintro e w' ⟨rfl, rfl⟩) | (go_at_call 29; with_reducible refine (Kd.out _).mono ?_; rintro e w' ⟨rfl, n, rfl⟩) | (go_at_call 31; with_reducible refine (Kc.out _).mono ?_; rintro e w' ⟨rfl, n, rfl⟩) | (go_at_call 26; with_reducible refine (sum_yes _ _ _ (by first | assumption | exact tickB_clamp _) (by first | assumption | exact tickB_clamp _)).mono ?_; rintro e w' ⟨rfl, rfl⟩) | (go_at_call 27; with_reducible refine (product_yes _ _ _ (by first | assumption | exact tickB_clamp _) (by first | assumption | exact tickB_clamp _)).mono ?_; rintro e w' ⟨rfl, rfl⟩))
      go_ret
      exact ⟨rfl, by repeat (first | exact Grown.refl _ | apply Grown.drew | apply Grown.alloc)⟩
    · go_enter Try.func8, Try.ntmps8
      go_wp2_with (first | (go_at_call 17; with_reducible refine (awake1 _).mono ?_; rintro e w' ⟨rfl, n, rfl⟩) | (go_at_call 20; (first | (with_reducible refine (Kx.out _).mono ?_) | (with_reducible refine (Ky.out _).mono ?_)); rintro e w' ⟨rfl, rfl⟩) | (go_at_call 29; with_reducible refine (Kd.out _).mono ?_; rintro e w' ⟨rfl, n, rfl⟩) | (go_at_call 31; with_reducible refine (Kc.out _).mono ?_; rintro e w' ⟨rfl, n, rfl⟩) | (go_at_call 26; with_reducible refine (sum_yes _ _ _ (by first | assumption | exact tickB_clamp _) (by first | assumption | exact tickB_clamp _)).mono ?_; rintro e w' ⟨rfl, rfl⟩) | (go_at_call 27; with_reducible refine (product_yes _ _ _ (by first | assumption | exact tickB_clamp _) (by first | assumption | exact tickB_clamp _)).mono ?_; rintro e w' ⟨rfl, rfl⟩))
      go_ret
      exact ⟨rfl, by repeat (first | exact Grown.refl _ | apply Grown.drew | apply Grown.alloc)⟩

theorem walk (x y : Int) (_ : (Lit.int .i64 x).wf = true) (_ : (Lit.int .i64 y).wf = true) (w : World) :
    Calls Try.prog 8 #[.int .i64 x, .int .i64 y] w fun e w' => e = .returned (.bool true) ∧ Grown w w' := by
  have h := clampI_tick y
  exact core x y _ (clampI y) (max (clampI y) 1) (tickB_clamp x) (tickB_mk (by omega) (by omega)) (tickB_clamp y) (by omega) (by omega) w (clamp_any x) (clamp_any y)

set_option maxRecDepth 100000 in
theorem lifted (os : Os) (started : os.Started) (H : Type) (enc : TypeId × Value → H) :
    ReturnsInHanded {} Try.checked os 8 .any (Rows.tickDividesSpec.pre6 enc Try.prog Try.f8 Rows.tickDividesRow.domain false) (Rows.tickDividesSpec.post enc Try.prog Try.f8 false true false false) := by
  refine returnsInHanded_of_change (C := Try.checked) own started (by kernel_rfl) Try.func8
    (ChangeSpec.witness6 (enc := enc) (C := Try.checked) false ⟨#[], #[.int .i64 0, .int .i64 0], []⟩ 8 (by kernel_rfl) (by kernel_rfl) (by kernel_rfl) (by kernel_rfl)) ?_
  intro W base args ds gs before hval0 hW hcnd _
  have hval : ∀ (j : Nat) t v, Try.f8.params[j]? = some t → args[j]? = some v → Value.okWide Try.prog W .any base t v := hval0
  have hW' := hW
  obtain ⟨p, q, hA0, hV, rfl, hfz, hnd⟩ := hW
  have hA : DataW.TrodAll enc Try.prog W 0 (fun _ => true) true Try.f8.params.toList args.toList ds p := hA0
  rw [Try.params8] at hA hval
  obtain ⟨v0, vs0, d0, ds0, p0, q0, hargs, rfl, rfl, h0, r0⟩ := trodAll_cons hA
  obtain ⟨v1, vs1, d1, ds1, p1, q1, rfl, rfl, rfl, h1, r1⟩ := trodAll_cons r0
  obtain ⟨rfl, rfl, rfl⟩ := trodAll_nil r1
  obtain rfl : args = #[v0, v1] := by cases args; simp_all
  obtain ⟨rfl, rfl⟩ := trodVars_none hV
  obtain ⟨a0, rfl, rfl, rfl, w0⟩ := open_int Try.underlying2 (hval 0 2 v0 rfl rfl) h0
  obtain ⟨a1, rfl, rfl, rfl, w1⟩ := open_int Try.underlying2 (hval 1 2 v1 rfl rfl) h1
  clear hA0 hval0
  simp only [List.append_nil] at hW'
  refine (walk a0 a1 w0 w1 W).mono fun e W' ⟨he, hg⟩ => ?_
  subst he
  exact ⟨_, rfl, post_of_same (pa := []) (pv := []) hW' (fun _ _ _ => (trodAll_cons_mk (shut_bool Try.underlying4 _) trodAll_mk0)) (fun sp _ => (trodAll_cons_mk (shut_int Try.underlying2 w0) (trodAll_cons_mk (shut_int Try.underlying2 w1) trodAll_mk0))) (fun _ _ => rfl) rfl
    (hg.frame _) hg.2.1 (ok_one (by kernel_rfl) rfl (okWide_bool_mk Try.underlying4 _))⟩

theorem over : Rows.tickDividesRow.holds Try.pinned (OpenSpec.ofChange Rows.tickDividesSpec) :=
  OpenClaim.holds_of_wide 8 Try.f8 rfl rfl rfl rfl rfl rfl rfl ⟨rfl, rfl, rfl, rfl, rfl⟩ rfl rfl rfl rfl rfl (by kernel_rfl) Try.func8 (by kernel_rfl)
    (of_decide_eq_true (by kernel_rfl)) (by unfold Func.isWrapper; first | (rw [if_pos (by decide +kernel)]; kernel_rfl) | (rw [if_neg (by decide +kernel)]; exact ⟨rfl, rfl⟩))
    (fun os started H enc _ => lifted os started H enc)

theorem proved : Rows.TickDividesSaid :=
  over
#print axioms proved
end Go.Proofs.Ytdjiihcbaedmcaa.tickDivides
