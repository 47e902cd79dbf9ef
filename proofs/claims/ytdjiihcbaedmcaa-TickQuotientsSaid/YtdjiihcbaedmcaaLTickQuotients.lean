/- TickQuotients: for every input the law returns true, and its arguments read afterwards as they read before. No condition. -/
import Derived.Test.YtdjiihcbaedmcaaRows
import Derived.WalkKit
import Derived.ProofKit
import Derived.OpenShut
import Derived.Lib.SmallJoins
import Derived.Test.YtdjiihcbaedmcaaTickD
import Derived.Test.YtdjiihcbaedmcaaTickP
import Derived.Test.YtdjiihcbaedmcaaNatV
namespace Go.Proofs.Ytdjiihcbaedmcaa.tickQuotients
open Go.ChangeShapes Go.WideShapes Go.ChangeAt Go.RowKit Go.Joins
set_option linter.unusedVariables false

theorem own : ownKnob Try.prog.godebug = none := by kernel_rfl

set_option maxHeartbeats 2000000 in
theorem walk (a b : Int) (_ : (Lit.int .i64 a).wf = true) (_ : (Lit.int .i64 b).wf = true) (w : World) :
    Calls Try.prog 7 #[.int .i64 a, .int .i64 b] w fun e w' => e = .returned (.bool true) ∧ Below w.heap.size w w' := by
  by_cases h : (tickB a && tickB b) = true
  · rw [Bool.and_eq_true] at h
    obtain ⟨ha, hb⟩ := h
    by_cases h0 : 0 < b
    · have K0 := Lib.hid (fun v => div_yes a b v ha hb h0)
      have K1 := Lib.hid (fun v => ceil_yes a b v ha hb h0)
      have D0 := Lib.hid (fun v => docdiv_yes a b v ha hb h0)
      have D1 := Lib.hid (fun v => docceil_yes a b v ha hb h0)
      generalize a / b = q at *
      generalize a % b = r at *
      generalize ceilI a b = c at *
      clear ha hb h0
      go_enter Try.func7, Try.ntmps7
      go_wp2_with (go_at_call 29; (with_reducible refine (K0.out _).mono ?_); rintro e w' ⟨rfl, n0, rfl⟩)
      refine (D0.out _).mono ?_
      rintro e w1 ⟨rfl, hb1⟩
      have Hb1 : Hid (Below w.heap.size w w1) := (below_drewN (Below.refl _ _) _).trans hb1
      clear hb1
      go_wp2_with (go_at_call 31; (with_reducible refine (K1.out _).mono ?_); rintro e w' ⟨rfl, n1, rfl⟩)
      refine (D1.out _).mono ?_
      rintro e w2 ⟨rfl, hb2⟩
      have Hb2 : Hid (Below w.heap.size w w2) := (below_drewN Hb1.out n1).trans (hb2.mono Hb1.out.size)
      clear hb2
      go_wp2_with (go_at_call 17; (with_reducible refine (awake1 _).mono ?_); rintro e w' ⟨rfl, n, rfl⟩)
      go_ret
      exact ⟨rfl, below_drewN Hb2.out _⟩
    · obtain rfl : b = 0 := by have := (tickB_yes hb).1; omega
      have K0 := Lib.hid (fun v => div_zero a v ha)
      have K1 := Lib.hid (fun v => ceil_zero a v ha)
      have D0 := Lib.hid (fun v => docdiv_zero a v ha)
      have D1 := Lib.hid (fun v => docceil_no a 0 v (fun v => docdiv_zero a v ha))
      clear ha hb h0
      go_enter Try.func7, Try.ntmps7
      go_wp2_with (go_at_call 29; (with_reducible refine (K0.out _).mono ?_); rintro e w' ⟨rfl, n0, rfl⟩)
      refine (D0.out _).mono ?_
      rintro e w1 ⟨rfl, hb1⟩
      have Hb1 : Hid (Below w.heap.size w w1) := (below_drewN (Below.refl _ _) _).trans hb1
      clear hb1
      go_wp2_with (go_at_call 31; (with_reducible refine (K1.out _).mono ?_); rintro e w' ⟨rfl, n1, rfl⟩)
      refine (D1.out _).mono ?_
      rintro e w2 ⟨rfl, hb2⟩
      have Hb2 : Hid (Below w.heap.size w w2) := (below_drewN Hb1.out n1).trans (hb2.mono Hb1.out.size)
      clear hb2
      go_wp2_with (go_at_call 17; (with_reducible refine (awake1 _).mono ?_); rintro e w' ⟨rfl, n, rfl⟩)
      go_ret
      exact ⟨rfl, below_drewN Hb2.out _⟩
  · have h' : (tickB a && tickB b) = false := by simpa using h
    have K0 := Lib.hid (fun v => div_no a b v h')
    have K1 := Lib.hid (fun v => ceil_no a b v h')
    have D0 := Lib.hid (fun v => docdiv_no a b v h')
    have D1 := Lib.hid (fun v => docceil_no a b v (fun v => docdiv_no a b v h'))
    clear h h'
    go_enter Try.func7, Try.ntmps7
    go_wp2_with (go_at_call 29; (with_reducible refine (K0.out _).mono ?_); rintro e w' ⟨rfl, n0, rfl⟩)
    refine (D0.out _).mono ?_
    rintro e w1 ⟨rfl, hb1⟩
    have Hb1 : Hid (Below w.heap.size w w1) := (below_drewN (Below.refl _ _) _).trans hb1
    clear hb1
    go_wp2_with (go_at_call 31; (with_reducible refine (K1.out _).mono ?_); rintro e w' ⟨rfl, n1, rfl⟩)
    refine (D1.out _).mono ?_
    rintro e w2 ⟨rfl, hb2⟩
    have Hb2 : Hid (Below w.heap.size w w2) := (below_drewN Hb1.out n1).trans (hb2.mono Hb1.out.size)
    clear hb2
    go_wp2_with (go_at_call 17; (with_reducible refine (awake1 _).mono ?_); rintro e w' ⟨rfl, n, rfl⟩)
    go_ret
    exact ⟨rfl, below_drewN Hb2.out _⟩

set_option maxRecDepth 100000 in
theorem lifted (os : Os) (started : os.Started) (H : Type) (enc : TypeId × Value → H) :
    ReturnsInHanded {} Try.checked os 7 .any (Rows.tickQuotientsSpec.pre6 enc Try.prog Try.f7 Rows.tickQuotientsRow.domain false) (Rows.tickQuotientsSpec.post enc Try.prog Try.f7 false true false false) := by
  refine returnsInHanded_of_change (C := Try.checked) own started (by kernel_rfl) Try.func7
    (ChangeSpec.witness6 (enc := enc) (C := Try.checked) false ⟨#[], #[.int .i64 0, .int .i64 0], []⟩ 8 (by kernel_rfl) (by kernel_rfl) (by kernel_rfl) (by kernel_rfl)) ?_
  intro W base args ds gs before hval0 hW hcnd _
  have hval : ∀ (j : Nat) t v, Try.f7.params[j]? = some t → args[j]? = some v → Value.okWide Try.prog W .any base t v := hval0
  have hW' := hW
  obtain ⟨p, q, hA0, hV, rfl, hfz, hnd⟩ := hW
  have hA : DataW.TrodAll enc Try.prog W 0 (fun _ => true) true Try.f7.params.toList args.toList ds p := hA0
  rw [Try.params7] at hA hval
  obtain ⟨v0, vs0, d0, ds0, p0, q0, hargs, rfl, rfl, h0, r0⟩ := trodAll_cons hA
  obtain ⟨v1, vs1, d1, ds1, p1, q1, rfl, rfl, rfl, h1, r1⟩ := trodAll_cons r0
  obtain ⟨rfl, rfl, rfl⟩ := trodAll_nil r1
  obtain rfl : args = #[v0, v1] := by cases args; simp_all
  obtain ⟨rfl, rfl⟩ := trodVars_none hV
  obtain ⟨a0, rfl, rfl, rfl, w0⟩ := open_int Try.underlying2 (hval 0 2 v0 rfl rfl) h0
  obtain ⟨a1, rfl, rfl, rfl, w1⟩ := open_int Try.underlying2 (hval 1 2 v1 rfl rfl) h1
  clear hA0 hval0
  refine (walk a0 a1 w0 w1 W).mono fun e W' ⟨he, hg⟩ => ?_
  subst he
  exact ⟨_, rfl, _, _, _, [], _, [], hW', trodAll_mk1 (shut_bool Try.underlying4 _), (trodAll_cons_mk (shut_int Try.underlying2 w0) (trodAll_cons_mk (shut_int Try.underlying2 w1) trodAll_mk0)), rfl, hg.frame _, fun h => by cases h⟩

theorem over : Rows.tickQuotientsRow.holds Try.pinned (OpenSpec.ofChange Rows.tickQuotientsSpec) :=
  OpenClaim.holds_of_wide 7 Try.f7 rfl rfl rfl rfl rfl rfl rfl ⟨rfl, rfl, rfl, rfl, rfl⟩ rfl rfl rfl rfl rfl (by kernel_rfl) Try.func7 (by kernel_rfl)
    (of_decide_eq_true (by kernel_rfl)) (by unfold Func.isWrapper; first | (rw [if_pos (by decide +kernel)]; kernel_rfl) | (rw [if_neg (by decide +kernel)]; exact ⟨rfl, rfl⟩))
    (fun os started H enc _ => lifted os started H enc)

theorem proved : Rows.TickQuotientsSaid :=
  over
#print axioms proved
end Go.Proofs.Ytdjiihcbaedmcaa.tickQuotients
