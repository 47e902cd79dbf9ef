/- TickClamps: for every input the law returns true, and its arguments read afterwards as they read before. No condition. -/
import Derived.Test.YtdjiihcbaedmcaaRows
import Derived.WalkKit
import Derived.ProofKit
import Derived.OpenShut
import Derived.Lib.SmallJoins
import Derived.Test.YtdjiihcbaedmcaaTickD
import Derived.Test.YtdjiihcbaedmcaaTickP
import Derived.Test.YtdjiihcbaedmcaaNatN
namespace Go.Proofs.Ytdjiihcbaedmcaa.tickClamps
open Go.ChangeShapes Go.WideShapes Go.ChangeAt Go.RowKit Go.Joins
set_option linter.unusedVariables false

theorem own : ownKnob Try.prog.godebug = none := by kernel_rfl

set_option maxHeartbeats 1000000 in
theorem walk (x : Int) (hx : (Lit.int .i64 x).wf = true) (w : World) :
    Calls Try.prog 3 #[.int .i64 x] w fun e w' => e = .returned (.bool true) ∧ Below w.heap.size w w' := by
  have hb := (bounds_i64 hx).2
  have tc := tickB_clamp x
  have Kc := fun v => Lib.hid (clamp_any x v)
  have Kr := fun v => Lib.hid (rclamp_any x v hb)
  clear hb hx
  generalize clampI x = c at *
  go_enter Try.func3, Try.ntmps3
  go_wp2_with (first | (go_at_call 17; (with_reducible refine (awake1 _).mono ?_); rintro e w' ⟨rfl, n, rfl⟩) | (go_at_call 18; with_reducible refine (form_any _ _).mono ?_; rintro e w' ⟨rfl, rfl⟩) | (go_at_call 19; with_reducible refine (rform_any _ _).mono ?_; rintro e w' ⟨rfl, rfl⟩) | (go_at_call 20; with_reducible refine (Kc _).out.mono ?_; rintro e w' ⟨rfl, rfl⟩) | (go_at_call 21; (with_reducible refine (Kr _).out.mono ?_); rintro e w1 ⟨rfl, hb1⟩))
  go_ret
  exact ⟨rfl, (below_drewN (Below.refl _ _) _).trans hb1⟩

set_option maxRecDepth 100000 in
theorem lifted (os : Os) (started : os.Started) (H : Type) (enc : TypeId × Value → H) :
    ReturnsInHanded {} Try.checked os 3 .any (Rows.tickClampsSpec.pre6 enc Try.prog Try.f3 Rows.tickClampsRow.domain false) (Rows.tickClampsSpec.post enc Try.prog Try.f3 false true false false) := by
  refine returnsInHanded_of_change (C := Try.checked) own started (by kernel_rfl) Try.func3
    (ChangeSpec.witness6 (enc := enc) (C := Try.checked) false ⟨#[], #[.int .i64 0], []⟩ 8 (by kernel_rfl) (by kernel_rfl) (by kernel_rfl) (by kernel_rfl)) ?_
  intro W base args ds gs before hval0 hW hcnd _
  have hval : ∀ (j : Nat) t v, Try.f3.params[j]? = some t → args[j]? = some v → Value.okWide Try.prog W .any base t v := hval0
  have hW' := hW
  obtain ⟨p, q, hA0, hV, rfl, hfz, hnd⟩ := hW
  have hA : DataW.TrodAll enc Try.prog W 0 (fun _ => true) true Try.f3.params.toList args.toList ds p := hA0
  rw [Try.params3] at hA hval
  obtain ⟨v0, vs0, d0, ds0, p0, q0, hargs, rfl, rfl, h0, r0⟩ := trodAll_cons hA
  obtain ⟨rfl, rfl, rfl⟩ := trodAll_nil r0
  obtain rfl : args = #[v0] := by cases args; simp_all
  obtain ⟨rfl, rfl⟩ := trodVars_none hV
  obtain ⟨a0, rfl, rfl, rfl, w0⟩ := open_int Try.underlying2 (hval 0 2 v0 rfl rfl) h0
  clear hA0 hval0
  refine (walk a0 w0 W).mono fun e W' ⟨he, hg⟩ => ?_
  subst he
  exact ⟨_, rfl, _, _, _, [], _, [], hW', trodAll_mk1 (shut_bool Try.underlying4 _), (trodAll_cons_mk (shut_int Try.underlying2 w0) trodAll_mk0), rfl, hg.frame _, fun h => by cases h⟩

theorem over : Rows.tickClampsRow.holds Try.pinned (OpenSpec.ofChange Rows.tickClampsSpec) :=
  OpenClaim.holds_of_wide 3 Try.f3 rfl rfl rfl rfl rfl rfl rfl ⟨rfl, rfl, rfl, rfl, rfl⟩ rfl rfl rfl rfl rfl (by kernel_rfl) Try.func3 (by kernel_rfl)
    (of_decide_eq_true (by kernel_rfl)) (by unfold Func.isWrapper; first | (rw [if_pos (by decide +kernel)]; kernel_rfl) | (rw [if_neg (by decide +kernel)]; exact ⟨rfl, rfl⟩))
    (fun os started H enc _ => lifted os started H enc)

theorem proved : Rows.TickClampsSaid :=
  over
#print axioms proved
end Go.Proofs.Ytdjiihcbaedmcaa.tickClamps
