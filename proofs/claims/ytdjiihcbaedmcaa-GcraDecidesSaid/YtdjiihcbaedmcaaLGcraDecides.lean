/- GcraDecides: for every input the law returns true, and its arguments read afterwards as they read before. No condition. -/
import Derived.Test.YtdjiihcbaedmcaaRows
import Derived.WalkKit
import Derived.ProofKit
import Derived.OpenShut
import Derived.Lib.SmallJoins
import Derived.Test.YtdjiihcbaedmcaaGcraM
import Derived.Test.YtdjiihcbaedmcaaGcraN
namespace Go.Proofs.Ytdjiihcbaedmcaa.gcraDecides
open Go.ChangeShapes Go.WideShapes Go.ChangeAt Go.RowKit Go.Joins
set_option linter.unusedVariables false

theorem own : ownKnob Try.prog.godebug = none := by kernel_rfl

theorem cellsL : Try.prog.cellsOf 39 = 2 := by kernel_rfl

theorem right_split {T tau tat now n : Int} : ([tat, now, n].all tickB && limB T tau) = rightB T tau tat now n := by
  unfold rightB
  simp only [List.all_cons, List.all_nil, Bool.and_true]
  cases limB T tau <;> cases tickB tat <;> cases tickB now <;> cases tickB n <;> rfl

set_option maxHeartbeats 2000000 in
set_option maxRecDepth 100000 in
theorem core (T tau tat now n : Int) (g : Bool) (d1 d2 d3 f : Int) (w : World)
    (k1 : ∀ v, Calls Try.prog 33 #[limV T tau, .int .i64 tat, .int .i64 now, .int .i64 n] v (AnsTwo v g d1 d2 d3 f))
    (k2 : ∀ v, Calls Try.prog 34 #[limV T tau, .int .i64 tat, .int .i64 now, .int .i64 n] v (AnsTwo v g d1 d2 d3 f)) :
    Calls Try.prog 9 #[limV T tau, .int .i64 tat, .int .i64 now, .int .i64 n] w fun e w' => e = .returned (.bool true) ∧ Below w.heap.size w w' := by
  have K1 := Lib.hid k1; have K2 := Lib.hid k2
  have Ks := Lib.hid (fun v => same_yes g d1 d2 d3 v)
  clear k1 k2
  unfold limV ansV at *
  go_enter Try.func9, Try.ntmps9
  go_wp2_with fail
  refine (K1.out _).mono ?_
  rintro e w1 ⟨rfl, hb⟩
  obtain ⟨hc, hf⟩ := bcell hb
  have hz0 : w.heap.size < w1.heap.size := by have := hb.size; simp at this; omega
  have Hb := Lib.hid (below_past hb)
  clear hb
  unfold ansV
  go_wp2_with fail
  refine (K2.out _).mono ?_
  rintro e w2 ⟨rfl, hb2⟩
  obtain ⟨hc2, hf2⟩ := bcell hb2
  have hz2 : w1.heap.size < w2.heap.size := by have := hb2.size; simp at this; omega
  have Hb2 : Hid (Below w.heap.size w w2) := Hb.out.trans ((below_past hb2).mono (by omega))
  clear hb2
  unfold ansV
  go_wp2_with fail
  refine (awake5 _).mono ?_
  rintro e w3 ⟨rfl, hb3⟩
  obtain ⟨hc3, hf3⟩ := bcell hb3
  have hz3 : w2.heap.size < w3.heap.size := by have := hb3.size; simp at this; omega
  have Hb3 : Hid (Below w.heap.size w w3) := Hb2.out.trans ((below_past hb3).mono (by omega))
  clear hb3
  go_wp2_with fail
  refine (Ks.out _).mono ?_
  rintro e w4 ⟨rfl, hb4⟩
  have Hb4 : Hid (Below w.heap.size w w4) := Hb3.out.trans (hb4.mono (by omega))
  clear hb4
  go_wp2
  go_ret
  exact ⟨rfl, Hb4.out⟩

theorem walk (T tau tat now n : Int) (_ : (Lit.int .i64 T).wf = true) (_ : (Lit.int .i64 tau).wf = true) (_ : (Lit.int .i64 tat).wf = true) (_ : (Lit.int .i64 now).wf = true) (_ : (Lit.int .i64 n).wf = true) (w : World) :
    Calls Try.prog 9 #[.agg #[.int .i64 T, .int .i64 tau], .int .i64 tat, .int .i64 now, .int .i64 n] w fun e w' => e = .returned (.bool true) ∧ Below w.heap.size w w' := by
  cases hr : rightB T tau tat now n with
  | true =>
    have h := hr
    unfold rightB at h
    simp only [Bool.and_eq_true] at h
    exact core T tau tat now n _ _ _ _ _ w (fun v => gDecide_yes T tau tat now n v h.1.1.1 h.1.1.2 h.1.2 h.2) (fun v => docdecide_yes T tau tat now n v hr)
  | false => exact core T tau tat now n _ _ _ _ _ w (fun v => gDecide_no T tau tat now n v (right_split.trans hr)) (fun v => docdecide_no T tau tat now n v hr)

set_option maxRecDepth 100000 in
theorem lifted (os : Os) (started : os.Started) (H : Type) (enc : TypeId × Value → H) :
    ReturnsInHanded {} Try.checked os 9 .any (Rows.gcraDecidesSpec.pre6 enc Try.prog Try.f9 Rows.gcraDecidesRow.domain false) (Rows.gcraDecidesSpec.post enc Try.prog Try.f9 false true false false) := by
  refine returnsInHanded_of_change (C := Try.checked) own started (by kernel_rfl) Try.func9
    (ChangeSpec.witness6 (enc := enc) (C := Try.checked) false ⟨#[], #[.agg #[.int .i64 0, .int .i64 0], .int .i64 0, .int .i64 0, .int .i64 0], []⟩ 8 (by kernel_rfl) (by kernel_rfl) (by kernel_rfl) (by kernel_rfl)) ?_
  intro W base args ds gs before hval0 hW hcnd _
  have hval : ∀ (j : Nat) t v, Try.f9.params[j]? = some t → args[j]? = some v → Value.okWide Try.prog W .any base t v := hval0
  have hW' := hW
  obtain ⟨p, q, hA0, hV, rfl, hfz, hnd⟩ := hW
  have hA : DataW.TrodAll enc Try.prog W 0 (fun _ => true) true Try.f9.params.toList args.toList ds p := hA0
  rw [Try.params9] at hA hval
  obtain ⟨v0, vs0, d0, ds0, p0, q0, hargs, rfl, rfl, h0, r0⟩ := trodAll_cons hA
  obtain ⟨v1, vs1, d1, ds1, p1, q1, rfl, rfl, rfl, h1, r1⟩ := trodAll_cons r0
  obtain ⟨v2, vs2, d2, ds2, p2, q2, rfl, rfl, rfl, h2, r2⟩ := trodAll_cons r1
  obtain ⟨v3, vs3, d3, ds3, p3, q3, rfl, rfl, rfl, h3, r3⟩ := trodAll_cons r2
  obtain ⟨rfl, rfl, rfl⟩ := trodAll_nil r3
  obtain rfl : args = #[v0, v1, v2, v3] := by cases args; simp_all
  obtain ⟨rfl, rfl⟩ := trodVars_none hV
  obtain ⟨c0, e0, y0, z0, m0, rfl, rfl, rfl, hy0, hz0⟩ := open_agg2 Try.underlying39 (by kernel_rfl) cellsL (hval 0 39 v0 rfl rfl) h0
  obtain ⟨a0, f0, rfl, w0⟩ := DataW.trod_int Try.underlying2 hy0
  obtain ⟨b0, g0, rfl, u0⟩ := DataW.trod_int Try.underlying2 hz0
  simp at f0 g0
  subst f0 g0
  obtain ⟨a1, rfl, rfl, rfl, w1⟩ := open_int Try.underlying2 (hval 1 2 v1 rfl rfl) h1
  obtain ⟨a2, rfl, rfl, rfl, w2⟩ := open_int Try.underlying2 (hval 2 2 v2 rfl rfl) h2
  obtain ⟨a3, rfl, rfl, rfl, w3⟩ := open_int Try.underlying2 (hval 3 2 v3 rfl rfl) h3
  clear hA0 hval0
  have sr0 : ∀ (W' : World) (sp : Nat → Bool), DataW.Trod enc Try.prog W' 0 sp true 39 (.agg #[.int .i64 a0, .int .i64 b0]) (.agg [.lit (.int .i64 a0), .lit (.int .i64 b0)]) [] := fun W' sp =>
    shut_agg2 (y0 := (.lit (.int .i64 a0), [])) (y1 := (.lit (.int .i64 b0), [])) Try.underlying39 (by kernel_rfl) cellsL ⟨1, by simp [DataW.trod, Try.underlying2, w0]⟩ ⟨1, by simp [DataW.trod, Try.underlying2, u0]⟩
  refine (walk a0 b0 a1 a2 a3 w0 u0 w1 w2 w3 W).mono fun e W' ⟨he, hg⟩ => ?_
  subst he
  exact ⟨_, rfl, _, _, _, [], _, [], hW', trodAll_mk1 (shut_bool Try.underlying4 _), (trodAll_cons_mk (sr0 _ _) (trodAll_cons_mk (shut_int Try.underlying2 w1) (trodAll_cons_mk (shut_int Try.underlying2 w2) (trodAll_cons_mk (shut_int Try.underlying2 w3) trodAll_mk0)))), rfl, hg.frame _, fun h => by cases h⟩

theorem over : Rows.gcraDecidesRow.holds Try.pinned (OpenSpec.ofChange Rows.gcraDecidesSpec) :=
  OpenClaim.holds_of_wide 9 Try.f9 rfl rfl rfl rfl rfl rfl rfl ⟨rfl, rfl, rfl, rfl, rfl⟩ rfl rfl rfl rfl rfl (by kernel_rfl) Try.func9 (by kernel_rfl)
    (of_decide_eq_true (by kernel_rfl)) (by unfold Func.isWrapper; first | (rw [if_pos (by decide +kernel)]; kernel_rfl) | (rw [if_neg (by decide +kernel)]; exact ⟨rfl, rfl⟩))
    (fun os started H enc _ => lifted os started H enc)

theorem proved : Rows.GcraDecidesSaid :=
  over
#print axioms proved
end Go.Proofs.Ytdjiihcbaedmcaa.gcraDecides
