/- TickLaws: for every input the law returns true, and its arguments read afterwards as they read before. No condition. -/
import Derived.Test.YtdjiihcbaedmcaaRows
import Derived.WalkKit
import Derived.ProofKit
import Derived.OpenShut
import Derived.Lib.SmallJoins
import Derived.Test.YtdjiihcbaedmcaaTickD
import Derived.Test.YtdjiihcbaedmcaaTickP
namespace Go.Proofs.Ytdjiihcbaedmcaa.tickLaws
open Go.ChangeShapes Go.WideShapes Go.ChangeAt Go.RowKit Go.Joins
set_option linter.unusedVariables false

theorem own : ownKnob Try.prog.godebug = none := by kernel_rfl

theorem bne_of {a b : Int} (h : a = b) : (a != b) = false := by simp [h]
theorem beq_of {a b : Int} (h : a = b) : (a == b) = true := by simp [h]

set_option maxHeartbeats 4000000 in
theorem core (x y z a b c : Int) (ta : tickB a = true) (tb : tickB b = true) (tc : tickB c = true) (w : World)
    (kx : ∀ v, Calls Try.prog 20 #[.int .i64 x] v fun e w' => e = .returned (.int .i64 a) ∧ v = w')
    (ky : ∀ v, Calls Try.prog 20 #[.int .i64 y] v fun e w' => e = .returned (.int .i64 b) ∧ v = w')
    (kz : ∀ v, Calls Try.prog 20 #[.int .i64 z] v fun e w' => e = .returned (.int .i64 c) ∧ v = w') :
    Calls Try.prog 5 #[.int .i64 x, .int .i64 y, .int .i64 z] w fun e w' => e = .returned (.bool true) ∧ Grown w w' := by
  have a0 := (tickB_yes ta).1; have b0 := (tickB_yes tb).1; have c0 := (tickB_yes tc).1
  have a1 := (tickB_yes ta).2; have b1 := (tickB_yes tb).2
  have t0 : tickB 0 = true := by decide
  have t1 : tickB 1 = true := by decide
  have Kx := Lib.hid kx; have Ky := Lib.hid ky; have Kz := Lib.hid kz
  clear kx ky kz
  have g1 : (clampI (a + b) != clampI (b + a)) = false := bne_of (by rw [Int.add_comm])
  have g2 : (clampI (a * b) != clampI (b * a)) = false := bne_of (by rw [Int.mul_comm])
  have g3 : (clampI (clampI (a + b) + c) != clampI (a + clampI (b + c))) = false := bne_of (sum_assoc a b c a0 b0 c0)
  have g4 : (clampI (clampI (a * b) * c) != clampI (a * clampI (b * c))) = false := bne_of (product_assoc a b c a0 b0 c0)
  have g5 : (clampI (a * clampI (b + c)) != clampI (clampI (a * b) + clampI (a * c))) = false := bne_of (product_sum a b c a0 b0 c0)
  have g6 : clampI a = a := clampI_id a0 a1
  have g7 : clampI 0 = 0 := by decide
  have g8 : a ≤ clampI (a + b) := by rw [clampI_pos (by omega)]; omega
  have g9 : b ≤ clampI (a + b) := by rw [clampI_pos (by omega)]; omega
  have fin : (clampI (a - b) == 0 || clampI (clampI (a - b) + b) == a) = true := by
    by_cases h : a ≤ b
    · have : clampI (a - b) = 0 := by unfold clampI; repeat' split
                                      all_goals omega
      rw [this]; rfl
    · have : clampI (a - b) = a - b := clampI_id (by omega) (by omega)
      rw [this, show a - b + b = a by omega, g6]; simp
  have Hfin := Lib.hid fin
  clear fin
  by_cases hs : clampI (a + b) < 4611686018427387903
  · have g10 : (clampI (clampI (a + b) - b) != a) = false := by
      apply bne_of
      have e : clampI (a + b) = a + b := by rw [clampI_pos (by omega)] at hs ⊢; omega
      rw [e, show a + b - b = a by omega, g6]
    go_enter Try.func5, Try.ntmps5
    go_wp2_with (first | (go_at_call 17; with_reducible refine (awake1 _).mono ?_; rintro e w' ⟨rfl, n, rfl⟩) | (go_at_call 20; (first | (with_reducible refine (Kx.out _).mono ?_) | (with_reducible refine (Ky.out _).mono ?_) | (with_reducible refine (Kz.out _).mono ?_)); rintro e w' ⟨rfl, rfl⟩) | (go_at_call 26; with_reducible refine (sum_yes _ _ _ (by first | assumption | exact tickB_clamp _) (by first | assumption | exact tickB_clamp _)).mono ?_; rintro e w' ⟨rfl, rfl⟩) | (go_at_call 27; with_reducible refine (product_yes _ _ _ (by first | assumption | exact tickB_clamp _) (by first | assumption | exact tickB_clamp _)).mono ?_; rintro e w' ⟨rfl, rfl⟩) | (go_at_call 28; with_reducible refine (less_yes _ _ _ (by first | assumption | exact tickB_clamp _) (by first | assumption | exact tickB_clamp _)).mono ?_; rintro e w' ⟨rfl, rfl⟩))
    · go_ret
      exact ⟨rfl, by repeat (first | exact Grown.refl _ | apply Grown.drew | apply Grown.alloc)⟩
    · go_ret
      exact ⟨by simp [Hfin.out], by repeat (first | exact Grown.refl _ | apply Grown.drew | apply Grown.alloc)⟩
  · go_enter Try.func5, Try.ntmps5
    go_wp2_with (first | (go_at_call 17; with_reducible refine (awake1 _).mono ?_; rintro e w' ⟨rfl, n, rfl⟩) | (go_at_call 20; (first | (with_reducible refine (Kx.out _).mono ?_) | (with_reducible refine (Ky.out _).mono ?_) | (with_reducible refine (Kz.out _).mono ?_)); rintro e w' ⟨rfl, rfl⟩) | (go_at_call 26; with_reducible refine (sum_yes _ _ _ (by first | assumption | exact tickB_clamp _) (by first | assumption | exact tickB_clamp _)).mono ?_; rintro e w' ⟨rfl, rfl⟩) | (go_at_call 27; with_reducible refine (product_yes _ _ _ (by first | assumption | exact tickB_clamp _) (by first | assumption | exact tickB_clamp _)).mono ?_; rintro e w' ⟨rfl, rfl⟩) | (go_at_call 28; with_reducible refine (less_yes _ _ _ (by first | assumption | exact tickB_clamp _) (by first | assumption | exact tickB_clamp _)).mono ?_; rintro e w' ⟨rfl, rfl⟩))
    · go_ret
      exact ⟨rfl, by repeat (first | exact Grown.refl _ | apply Grown.drew | apply Grown.alloc)⟩
    · go_ret
      exact ⟨by simp [Hfin.out], by repeat (first | exact Grown.refl _ | apply Grown.drew | apply Grown.alloc)⟩

theorem walk (x y z : Int) (_ : (Lit.int .i64 x).wf = true) (_ : (Lit.int .i64 y).wf = true) (_ : (Lit.int .i64 z).wf = true) (w : World) :
    Calls Try.prog 5 #[.int .i64 x, .int .i64 y, .int .i64 z] w fun e w' => e = .returned (.bool true) ∧ Grown w w' :=
  core x y z _ _ _ (tickB_clamp x) (tickB_clamp y) (tickB_clamp z) w (clamp_any x) (clamp_any y) (clamp_any z)

set_option maxRecDepth 100000 in
theorem lifted (os : Os) (started : os.Started) (H : Type) (enc : TypeId × Value → H) :
    ReturnsInHanded {} Try.checked os 5 .any (Rows.tickLawsSpec.pre6 enc Try.prog Try.f5 Rows.tickLawsRow.domain false) (Rows.tickLawsSpec.post enc Try.prog Try.f5 false true false false) := by
  refine returnsInHanded_of_change (C := Try.checked) own started (by kernel_rfl) Try.func5
    (ChangeSpec.witness6 (enc := enc) (C := Try.checked) false ⟨#[], #[.int .i64 0, .int .i64 0, .int .i64 0], []⟩ 8 (by kernel_rfl) (by kernel_rfl) (by kernel_rfl) (by kernel_rfl)) ?_
  intro W base args ds gs before hval0 hW hcnd _
  have hval : ∀ (j : Nat) t v, Try.f5.params[j]? = some t → args[j]? = some v → Value.okWide Try.prog W .any base t v := hval0
  have hW' := hW
  obtain ⟨p, q, hA0, hV, rfl, hfz, hnd⟩ := hW
  have hA : DataW.TrodAll enc Try.prog W 0 (fun _ => true) true Try.f5.params.toList args.toList ds p := hA0
  rw [Try.params5] at hA hval
  obtain ⟨v0, vs0, d0, ds0, p0, q0, hargs, rfl, rfl, h0, r0⟩ := trodAll_cons hA
  obtain ⟨v1, vs1, d1, ds1, p1, q1, rfl, rfl, rfl, h1, r1⟩ := trodAll_cons r0
  obtain ⟨v2, vs2, d2, ds2, p2, q2, rfl, rfl, rfl, h2, r2⟩ := trodAll_cons r1
  obtain ⟨rfl, rfl, rfl⟩ := trodAll_nil r2
  obtain rfl : args = #[v0, v1, v2] := by cases args; simp_all
  obtain ⟨rfl, rfl⟩ := trodVars_none hV
  obtain ⟨a0, rfl, rfl, rfl, w0⟩ := open_int Try.underlying2 (hval 0 2 v0 rfl rfl) h0
  obtain ⟨a1, rfl, rfl, rfl, w1⟩ := open_int Try.underlying2 (hval 1 2 v1 rfl rfl) h1
  obtain ⟨a2, rfl, rfl, rfl, w2⟩ := open_int Try.underlying2 (hval 2 2 v2 rfl rfl) h2
  clear hA0 hval0
  simp only [List.append_nil] at hW'
  refine (walk a0 a1 a2 w0 w1 w2 W).mono fun e W' ⟨he, hg⟩ => ?_
  subst he
  exact ⟨_, rfl, post_of_same (pa := []) (pv := []) hW' (fun _ _ _ => (trodAll_cons_mk (shut_bool Try.underlying4 _) trodAll_mk0)) (fun sp _ => (trodAll_cons_mk (shut_int Try.underlying2 w0) (trodAll_cons_mk (shut_int Try.underlying2 w1) (trodAll_cons_mk (shut_int Try.underlying2 w2) trodAll_mk0)))) (fun _ _ => rfl) rfl
    (hg.frame _) hg.2.1 (ok_one (by kernel_rfl) rfl (okWide_bool_mk Try.underlying4 _))⟩

theorem over : Rows.tickLawsRow.holds Try.pinned (OpenSpec.ofChange Rows.tickLawsSpec) :=
  OpenClaim.holds_of_wide 5 Try.f5 rfl rfl rfl rfl rfl rfl rfl ⟨rfl, rfl, rfl, rfl, rfl⟩ rfl rfl rfl rfl rfl (by kernel_rfl) Try.func5 (by kernel_rfl)
    (of_decide_eq_true (by kernel_rfl)) (by unfold Func.isWrapper; first | (rw [if_pos (by decide +kernel)]; kernel_rfl) | (rw [if_neg (by decide +kernel)]; exact ⟨rfl, rfl⟩))
    (fun os started H enc _ => lifted os started H enc)

theorem proved : Rows.TickLawsSaid :=
  over
#print axioms proved
end Go.Proofs.Ytdjiihcbaedmcaa.tickLaws
