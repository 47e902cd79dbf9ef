/- GcraLefts: for every input the law returns true, and its arguments read afterwards as they read before. No condition. -/
import Derived.Test.YtdjiihcbaedmcaaRows
import Derived.WalkKit
import Derived.ProofKit
import Derived.OpenShut
import Derived.Lib.SmallJoins
import Derived.Test.YtdjiihcbaedmcaaGcraM
import Derived.Test.YtdjiihcbaedmcaaGcraN
namespace Go.Proofs.Ytdjiihcbaedmcaa.gcraLefts
open Go.ChangeShapes Go.WideShapes Go.ChangeAt Go.RowKit Go.Joins
set_option linter.unusedVariables false

theorem own : ownKnob Try.prog.godebug = none := by kernel_rfl

theorem cellsL : Try.prog.cellsOf 39 = 2 := by kernel_rfl

theorem right_zero {T tau tat now : Int} : rightB T tau tat now 0 = ([tat, now].all tickB && limB T tau) := by
  unfold rightB
  have h0 : tickB 0 = true := by decide
  simp only [List.all_cons, List.all_nil, Bool.and_true, h0]
  cases limB T tau <;> cases tickB tat <;> cases tickB now <;> rfl

set_option maxHeartbeats 2000000 in
set_option maxRecDepth 100000 in
theorem core (T tau tat now : Int) (k f g : Int) (b : Bool) (w : World)
    (k1 : ∀ v, Calls Try.prog 41 #[limV T tau, .int .i64 tat, .int .i64 now] v (TwoRes v k f))
    (k2 : ∀ v, Calls Try.prog 42 #[limV T tau, .int .i64 tat, .int .i64 now] v (TwoRes v k f))
    (k3 : ∀ v, Calls Try.prog 39 #[.int .i64 tat, .int .i64 now] v (IdleRes v b g))
    (k4 : ∀ v, Calls Try.prog 43 #[.int .i64 tat, .int .i64 now] v (IdleRes v b g)) :
    Calls Try.prog 13 #[limV T tau, .int .i64 tat, .int .i64 now] w fun e w' => e = .returned (.bool true) ∧ Below w.heap.size w w' := by
  have K1 := Lib.hid k1; have K2 := Lib.hid k2; have K3 := Lib.hid k3; have K4 := Lib.hid k4
  have hbb : (b == b) = true := by simp
  clear k1 k2 k3 k4
  unfold limV at *
  go_enter Try.func13, Try.ntmps13
  go_wp2_with fail
  refine (K1.out _).mono ?_
  rintro e w1 ⟨rfl, hb⟩
  obtain ⟨hc, hf⟩ := bcell hb
  have Hb := Lib.hid (below_past hb)
  have hz : w.heap.size < w1.heap.size := by have := hb.size; simp at this; omega
  clear hb
  go_wp2_with fail
  refine (K2.out _).mono ?_
  rintro e w2 ⟨rfl, hb2⟩
  have Hb2 : Hid (Below w.heap.size w w2) := Hb.out.trans (hb2.mono (by omega))
  clear hb2 hc hf
  go_wp2_with (first | (go_at_call 39; (with_reducible refine (K3.out _).mono ?_); rintro e w' ⟨rfl, rfl⟩) | (go_at_call 43; (with_reducible refine (K4.out _).mono ?_); rintro e w' ⟨rfl, rfl⟩))
  refine (awake5 _).mono ?_
  rintro e w3 ⟨rfl, hb3⟩
  have Hb3 : Hid (Below w.heap.size w w3) := Hb2.out.trans (hb3.mono Hb2.out.size)
  clear hb3
  go_wp2
  go_ret
  exact ⟨rfl, Hb3.out⟩

theorem walk (T tau tat now : Int) (_ : (Lit.int .i64 T).wf = true) (_ : (Lit.int .i64 tau).wf = true) (_ : (Lit.int .i64 tat).wf = true) (_ : (Lit.int .i64 now).wf = true) (w : World) :
    Calls Try.prog 13 #[.agg #[.int .i64 T, .int .i64 tau], .int .i64 tat, .int .i64 now] w fun e w' => e = .returned (.bool true) ∧ Below w.heap.size w w' := by
  obtain ⟨b, hb⟩ : ∃ b, ([tat, now].all tickB && limB T tau) = b := ⟨_, rfl⟩
  obtain ⟨k, hk, hk0⟩ : ∃ k, (b = true → k = leftI T tau tat now) ∧ (b = false → k = 0) := by
    cases b
    · exact ⟨0, fun h => by simp at h, fun _ => rfl⟩
    · exact ⟨leftI T tau tat now, fun _ => rfl, fun h => by simp at h⟩
  cases hi : (tickB tat && tickB now) with
  | true =>
    have hi2 := hi
    rw [Bool.and_eq_true] at hi2
    exact core T tau tat now k (codeI b) 0 _ w (fun v => gLeft_any T tau tat now k v b hb hk hk0) (fun v => docleft_any T tau tat now k v b (right_zero.trans hb) hk hk0) (fun v => idle_yes tat now v hi2.1 hi2.2) (fun v => docidle_yes tat now v hi2.1 hi2.2)
  | false => exact core T tau tat now k (codeI b) 1 _ w (fun v => gLeft_any T tau tat now k v b hb hk hk0) (fun v => docleft_any T tau tat now k v b (right_zero.trans hb) hk hk0) (fun v => idle_no tat now v hi) (fun v => docidle_no tat now v hi)

set_option maxRecDepth 100000 in
theorem lifted (os : Os) (started : os.Started) (H : Type) (enc : TypeId × Value → H) :
    ReturnsInHanded {} Try.checked os 13 .any (Rows.gcraLeftsSpec.pre6 enc Try.prog Try.f13 Rows.gcraLeftsRow.domain false) (Rows.gcraLeftsSpec.post enc Try.prog Try.f13 false true false false) := by
  refine returnsInHanded_of_change (C := Try.checked) own started (by kernel_rfl) Try.func13
    (ChangeSpec.witness6 (enc := enc) (C := Try.checked) false ⟨#[], #[.agg #[.int .i64 0, .int .i64 0], .int .i64 0, .int .i64 0], []⟩ 8 (by kernel_rfl) (by kernel_rfl) (by kernel_rfl) (by kernel_rfl)) ?_
  intro W base args ds gs before hval0 hW hcnd _
  have hval : ∀ (j : Nat) t v, Try.f13.params[j]? = some t → args[j]? = some v → Value.okWide Try.prog W .any base t v := hval0
  have hW' := hW
  obtain ⟨p, q, hA0, hV, rfl, hfz, hnd⟩ := hW
  have hA : DataW.TrodAll enc Try.prog W 0 (fun _ => true) true Try.f13.params.toList args.toList ds p := hA0
  rw [Try.params13] at hA hval
  obtain ⟨v0, vs0, d0, ds0, p0, q0, hargs, rfl, rfl, h0, r0⟩ := trodAll_cons hA
  obtain ⟨v1, vs1, d1, ds1, p1, q1, rfl, rfl, rfl, h1, r1⟩ := trodAll_cons r0
  obtain ⟨v2, vs2, d2, ds2, p2, q2, rfl, rfl, rfl, h2, r2⟩ := trodAll_cons r1
  obtain ⟨rfl, rfl, rfl⟩ := trodAll_nil r2
  obtain rfl : args = #[v0, v1, v2] := by cases args; simp_all
  obtain ⟨rfl, rfl⟩ := trodVars_none hV
  obtain ⟨c0, e0, y0, z0, m0, rfl, rfl, rfl, hy0, hz0⟩ := open_agg2 Try.underlying39 (by kernel_rfl) cellsL (hval 0 39 v0 rfl rfl) h0
  obtain ⟨a0, f0, rfl, w0⟩ := DataW.trod_int Try.underlying2 hy0
  obtain ⟨b0, g0, rfl, u0⟩ := DataW.trod_int Try.underlying2 hz0
  simp at f0 g0
  subst f0 g0
  obtain ⟨a1, rfl, rfl, rfl, w1⟩ := open_int Try.underlying2 (hval 1 2 v1 rfl rfl) h1
  obtain ⟨a2, rfl, rfl, rfl, w2⟩ := open_int Try.underlying2 (hval 2 2 v2 rfl rfl) h2
  clear hA0 hval0
  have sr0 : ∀ (W' : World) (sp : Nat → Bool), DataW.Trod enc Try.prog W' 0 sp true 39 (.agg #[.int .i64 a0, .int .i64 b0]) (.agg [.lit (.int .i64 a0), .lit (.int .i64 b0)]) [] := fun W' sp =>
    shut_agg2 (y0 := (.lit (.int .i64 a0), [])) (y1 := (.lit (.int .i64 b0), [])) Try.underlying39 (by kernel_rfl) cellsL ⟨1, by simp [DataW.trod, Try.underlying2, w0]⟩ ⟨1, by simp [DataW.trod, Try.underlying2, u0]⟩
  refine (walk a0 b0 a1 a2 w0 u0 w1 w2 W).mono fun e W' ⟨he, hg⟩ => ?_
  subst he
  exact ⟨_, rfl, _, _, _, [], _, [], hW', trodAll_mk1 (shut_bool Try.underlying4 _), (trodAll_cons_mk (sr0 _ _) (trodAll_cons_mk (shut_int Try.underlying2 w1) (trodAll_cons_mk (shut_int Try.underlying2 w2) trodAll_mk0))), rfl, hg.frame _, fun h => by cases h⟩

theorem over : Rows.gcraLeftsRow.holds Try.pinned (OpenSpec.ofChange Rows.gcraLeftsSpec) :=
  OpenClaim.holds_of_wide 13 Try.f13 rfl rfl rfl rfl rfl rfl rfl ⟨rfl, rfl, rfl, rfl, rfl⟩ rfl rfl rfl rfl rfl (by kernel_rfl) Try.func13 (by kernel_rfl)
    (of_decide_eq_true (by kernel_rfl)) (by unfold Func.isWrapper; first | (rw [if_pos (by decide +kernel)]; kernel_rfl) | (rw [if_neg (by decide +kernel)]; exact ⟨rfl, rfl⟩))
    (fun os started H enc _ => lifted os started H enc)

theorem proved : Rows.GcraLeftsSaid :=
  over
#print axioms proved
end Go.Proofs.Ytdjiihcbaedmcaa.gcraLefts
