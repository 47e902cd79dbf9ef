/- TickSums: for every input the law returns true, and its arguments read afterwards as they read before. No condition. -/
import Derived.Test.YtdjiihcbaedmcaaRows
import Derived.WalkKit
import Derived.ProofKit
import Derived.OpenShut
import Derived.Lib.SmallJoins
import Derived.Test.YtdjiihcbaedmcaaTickD
import Derived.Test.YtdjiihcbaedmcaaTickP
import Derived.Test.YtdjiihcbaedmcaaNatS
namespace Go.Proofs.Ytdjiihcbaedmcaa.tickSums
open Go.ChangeShapes Go.WideShapes Go.ChangeAt Go.RowKit Go.Joins
set_option linter.unusedVariables false

theorem own : ownKnob Try.prog.godebug = none := by kernel_rfl

set_option maxHeartbeats 2000000 in
theorem walk (a b : Int) (_ : (Lit.int .i64 a).wf = true) (_ : (Lit.int .i64 b).wf = true) (w : World) :
    Calls Try.prog 4 #[.int .i64 a, .int .i64 b] w fun e w' => e = .returned (.bool true) ∧ Below w.heap.size w w' := by
  by_cases h : (tickB a && tickB b) = true
  · rw [Bool.and_eq_true] at h
    obtain ⟨ha, hb⟩ := h
    have K0 := Lib.hid (fun v => add_yes a b v ha hb)
    have K1 := Lib.hid (fun v => sub_yes a b v ha hb)
    have K2 := Lib.hid (fun v => mul_yes a b v ha hb)
    have D0 := Lib.hid (fun v => doctwo0_yes a b v ha hb)
    have D1 := Lib.hid (fun v => doctwo1_yes a b v ha hb)
    have D2 := Lib.hid (fun v => doctwo2_yes a b v ha hb)
    generalize clampI (a + b) = r0 at *
    generalize clampI (a - b) = r1 at *
    generalize clampI (a * b) = r2 at *
    clear ha hb
    go_enter Try.func4, Try.ntmps4
    go_wp2_with (first | (go_at_call 17; (with_reducible refine (awake1 _).mono ?_); rintro e w' ⟨rfl, n, rfl⟩) | (go_at_call 22; (with_reducible refine (K0.out _).mono ?_); rintro e w' ⟨rfl, rfl⟩) | (go_at_call 23; (with_reducible refine (K1.out _).mono ?_); rintro e w' ⟨rfl, rfl⟩) | (go_at_call 24; (with_reducible refine (K2.out _).mono ?_); rintro e w' ⟨rfl, rfl⟩))
    refine (D0.out _).mono ?_
    rintro e w1 ⟨rfl, hb1⟩
    have Hb1 : Hid (Below w.heap.size w w1) := (below_drewN (Below.refl _ _) _).trans hb1
    clear hb1
    go_wp2_with fail
    refine (D1.out _).mono ?_
    rintro e w2 ⟨rfl, hb2⟩
    have Hb2 : Hid (Below w.heap.size w w2) := Hb1.out.trans (hb2.mono Hb1.out.size)
    clear hb2
    go_wp2_with fail
    refine (D2.out _).mono ?_
    rintro e w3 ⟨rfl, hb3⟩
    have Hb3 : Hid (Below w.heap.size w w3) := Hb2.out.trans (hb3.mono Hb2.out.size)
    clear hb3
    go_wp2
    go_ret
    exact ⟨rfl, Hb3.out⟩
  · have h' : (tickB a && tickB b) = false := by simpa using h
    have K0 := Lib.hid (fun v => add_no a b v h')
    have K1 := Lib.hid (fun v => sub_no a b v h')
    have K2 := Lib.hid (fun v => mul_no a b v h')
    have D0 := Lib.hid (fun k v => doctwo_no k a b v h')
    clear h h'
    go_enter Try.func4, Try.ntmps4
    go_wp2_with (first | (go_at_call 17; (with_reducible refine (awake1 _).mono ?_); rintro e w' ⟨rfl, n, rfl⟩) | (go_at_call 22; (with_reducible refine (K0.out _).mono ?_); rintro e w' ⟨rfl, rfl⟩) | (go_at_call 23; (with_reducible refine (K1.out _).mono ?_); rintro e w' ⟨rfl, rfl⟩) | (go_at_call 24; (with_reducible refine (K2.out _).mono ?_); rintro e w' ⟨rfl, rfl⟩))
    refine (D0.out _ _).mono ?_
    rintro e w1 ⟨rfl, hb1⟩
    have Hb1 : Hid (Below w.heap.size w w1) := (below_drewN (Below.refl _ _) _).trans hb1
    clear hb1
    go_wp2_with fail
    refine (D0.out _ _).mono ?_
    rintro e w2 ⟨rfl, hb2⟩
    have Hb2 : Hid (Below w.heap.size w w2) := Hb1.out.trans (hb2.mono Hb1.out.size)
    clear hb2
    go_wp2_with fail
    refine (D0.out _ _).mono ?_
    rintro e w3 ⟨rfl, hb3⟩
    have Hb3 : Hid (Below w.heap.size w w3) := Hb2.out.trans (hb3.mono Hb2.out.size)
    clear hb3
    go_wp2
    go_ret
    exact ⟨rfl, Hb3.out⟩

set_option maxRecDepth 100000 in
theorem lifted (os : Os) (started : os.Started) (H : Type) (enc : TypeId × Value → H) :
    ReturnsInHanded {} Try.checked os 4 .any (Rows.tickSumsSpec.pre6 enc Try.prog Try.f4 Rows.tickSumsRow.domain false) (Rows.tickSumsSpec.post enc Try.prog Try.f4 false true false false) := by
  refine returnsInHanded_of_change (C := Try.checked) own started (by kernel_rfl) Try.func4
    (ChangeSpec.witness6 (enc := enc) (C := Try.checked) false ⟨#[], #[.int .i64 0, .int .i64 0], []⟩ 8 (by kernel_rfl) (by kernel_rfl) (by kernel_rfl) (by kernel_rfl)) ?_
  intro W base args ds gs before hval0 hW hcnd _
  have hval : ∀ (j : Nat) t v, Try.f4.params[j]? = some t → args[j]? = some v → Value.okWide Try.prog W .any base t v := hval0
  have hW' := hW
  obtain ⟨p, q, hA0, hV, rfl, hfz, hnd⟩ := hW
  have hA : DataW.TrodAll enc Try.prog W 0 (fun _ => true) true Try.f4.params.toList args.toList ds p := hA0
  rw [Try.params4] at hA hval
  obtain ⟨v0, vs0, d0, ds0, p0, q0, hargs, rfl, rfl, h0, r0⟩ := trodAll_cons hA
  obtain ⟨v1, vs1, d1, ds1, p1, q1, rfl, rfl, rfl, h1, r1⟩ := trodAll_cons r0
  obtain ⟨rfl, rfl, rfl⟩ := trodAll_nil r1
  obtain rfl : args = #[v0, v1] := by cases args; simp_all
  obtain ⟨rfl, rfl⟩ := trodVars_none hV
  obtain ⟨a0, rfl, rfl, rfl, w0⟩ := open_int Try.underlying2 (hval 0 2 v0 rfl rfl) h0
  obtain ⟨a1, rfl, rfl, rfl, w1⟩ := open_int Try.underlying2 (hval 1 2 v1 rfl rfl) h1
  clear hA0 hval0
  refine (walk a0 a1 w0 w1 W).mono fun e W' ⟨he, hg⟩ => ?_
  subst he
  exact ⟨_, rfl, _, _, _, [], _, [], hW', trodAll_mk1 (shut_bool Try.underlying4 _), (trodAll_cons_mk (shut_int Try.underlying2 w0) (trodAll_cons_mk (shut_int Try.underlying2 w1) trodAll_mk0)), rfl, hg.frame _, fun h => by cases h⟩

theorem over : Rows.tickSumsRow.holds Try.pinned (OpenSpec.ofChange Rows.tickSumsSpec) :=
  OpenClaim.holds_of_wide 4 Try.f4 rfl rfl rfl rfl rfl rfl rfl ⟨rfl, rfl, rfl, rfl, rfl⟩ rfl rfl rfl rfl rfl (by kernel_rfl) Try.func4 (by kernel_rfl)
    (of_decide_eq_true (by kernel_rfl)) (by unfold Func.isWrapper; first | (rw [if_pos (by decide +kernel)]; kernel_rfl) | (rw [if_neg (by decide +kernel)]; exact ⟨rfl, rfl⟩))
    (fun os started H enc _ => lifted os started H enc)

theorem proved : Rows.TickSumsSaid :=
  over
#print axioms proved
end Go.Proofs.Ytdjiihcbaedmcaa.tickSums
