/- GcraOnce: for every input the law returns true, and its arguments read afterwards as they read before. No condition. -/
import Derived.Test.YtdjiihcbaedmcaaRows
import Derived.WalkKit
import Derived.ProofKit
import Derived.OpenShut
import Derived.Lib.SmallJoins
import Derived.Test.YtdjiihcbaedmcaaGcraM
import Derived.Test.YtdjiihcbaedmcaaGcraN
namespace Go.Proofs.Ytdjiihcbaedmcaa.gcraOnce
open Go.ChangeShapes Go.WideShapes Go.ChangeAt Go.RowKit Go.Joins
set_option linter.unusedVariables false

theorem own : ownKnob Try.prog.godebug = none := by kernel_rfl

theorem cellsL : Try.prog.cellsOf 39 = 2 := by kernel_rfl

def ClRes (w : World) (T tau x y z : Int) (e : Ending) (w' : World) : Prop := e = .returned (.tuple #[limV T tau, .int .i64 x, .int .i64 y, .int .i64 z]) ∧ Below w.heap.size w w'

theorem once_law {T tau now : Int} (h : limB T tau = true) (hn : tickB now = true) : leftI T tau 0 now = min ((0 + tau) / T + 1) ((4611686018427387903 - now) / T) := by
  have b2 := tickB_yes hn
  obtain ⟨_, _, h3⟩ := limB_yes h
  have b3 := tickB_yes h3
  unfold leftI leftB
  rw [show max 0 now = now by omega, if_neg (by omega), show tau - (now - now) = 0 + tau by omega]

set_option maxHeartbeats 2000000 in
set_option maxRecDepth 100000 in
theorem core (a b x T tau now y z : Int) (h : limB T tau = true) (hn : tickB now = true) (w : World)
    (kc : ∀ v, Calls Try.prog 37 #[limV a b, .int .i64 x, .int .i64 0, .int .i64 0] v (ClRes v T tau now y z)) :
    Calls Try.prog 14 #[limV a b, .int .i64 x] w fun e w' => e = .returned (.bool true) ∧ Below w.heap.size w w' := by
  have t0 : tickB 0 = true := by decide
  have Kl := Lib.hid (fun v => gLeft_any T tau 0 now _ v true (by simp [t0, hn, h]) (fun _ => rfl) (fun h => by simp at h))
  have Ko := Lib.hid (fun v => once_of T tau _ _ v (fun v => within_yes T tau 0 v h t0))
  have Kc := Lib.hid kc
  obtain ⟨h1, hT1, h3⟩ := limB_yes h
  have a0 := (tickB_yes h1).1; have a1 := (tickB_yes h1).2
  have b0 := (tickB_yes h3).1; have b1 := (tickB_yes h3).2
  have d0 := (tickB_yes hn).1; have d1 := (tickB_yes hn).2
  have hne : (T == 0) = false := beq_eq_false_iff_ne.2 (by omega)
  have hlaw := once_law h hn
  have q2 := div_tick (a := 4611686018427387903 - now) (b := T) (by omega) (by omega)
  have q20 := q2.1; have q21 := q2.2.1
  clear q2 kc h h1 h3 hn t0
  have hcode : codeI true = 0 := rfl
  rw [hlaw] at Kl
  clear hlaw
  generalize (0 + tau) / T + 1 = k1 at *
  rw [hcode] at Kl
  clear hcode
  unfold limV at *
  by_cases hm : k1 ≤ (4611686018427387903 - now) / T
  · have e1 : min k1 ((4611686018427387903 - now) / T) = k1 := by omega
    rw [e1] at Kl
    clear e1
    go_enter Try.func14, Try.ntmps14
    go_wp2_with fail
    refine (awake5 _).mono ?_
    rintro e w1 ⟨rfl, hb⟩
    obtain ⟨hc, hf⟩ := bcell hb
    have hz : w.heap.size < w1.heap.size := by have := hb.size; simp at this; omega
    have Hb := Lib.hid (below_past hb)
    clear hb
    go_wp2_with fail
    refine (Kc.out _).mono ?_
    rintro e w2 ⟨rfl, hb2⟩
    obtain ⟨hc2, hf2⟩ := bcell hb2
    have hz2 : w.heap.size < w2.heap.size := by have := hb2.size; omega
    have Hb2 : Hid (Below w.heap.size w w2) := Hb.out.trans (hb2.mono (by omega))
    clear hb2
    unfold limV
    go_wp2_with fail
    refine (Kl.out _).mono ?_
    rintro e w3 ⟨rfl, hb3⟩
    obtain ⟨hc3, hf3⟩ := bcell hb3
    have hz3 : w.heap.size < w3.heap.size := by have := hb3.size; simp at this; omega
    have Hb3 : Hid (Below w.heap.size w w3) := ((Hb2.out.setCell (by simp) _).setCell (by simp) _).trans (hb3.mono (by simp; omega))
    clear hb3
    go_wp2_with fail
    refine (Ko.out _).mono ?_
    rintro e w4 ⟨rfl, hb4⟩
    obtain ⟨hc4, hf4⟩ := bcell hb4
    have Hb4 : Hid (Below w.heap.size w w4) := Hb3.out.trans (hb4.mono (by omega))
    clear hb4
    go_wp2
    go_ret
    exact ⟨rfl, Hb4.out⟩
  · have e1 : min k1 ((4611686018427387903 - now) / T) = (4611686018427387903 - now) / T := by omega
    have hm' : (4611686018427387903 - now) / T < k1 := by omega
    rw [e1] at Kl
    clear e1 hm
    go_enter Try.func14, Try.ntmps14
    go_wp2_with fail
    refine (awake5 _).mono ?_
    rintro e w1 ⟨rfl, hb⟩
    obtain ⟨hc, hf⟩ := bcell hb
    have hz : w.heap.size < w1.heap.size := by have := hb.size; simp at this; omega
    have Hb := Lib.hid (below_past hb)
    clear hb
    go_wp2_with fail
    refine (Kc.out _).mono ?_
    rintro e w2 ⟨rfl, hb2⟩
    obtain ⟨hc2, hf2⟩ := bcell hb2
    have hz2 : w.heap.size < w2.heap.size := by have := hb2.size; omega
    have Hb2 : Hid (Below w.heap.size w w2) := Hb.out.trans (hb2.mono (by omega))
    clear hb2
    unfold limV
    go_wp2_with fail
    refine (Kl.out _).mono ?_
    rintro e w3 ⟨rfl, hb3⟩
    obtain ⟨hc3, hf3⟩ := bcell hb3
    have hz3 : w.heap.size < w3.heap.size := by have := hb3.size; simp at this; omega
    have Hb3 : Hid (Below w.heap.size w w3) := ((Hb2.out.setCell (by simp) _).setCell (by simp) _).trans (hb3.mono (by simp; omega))
    clear hb3
    go_wp2_with fail
    refine (Ko.out _).mono ?_
    rintro e w4 ⟨rfl, hb4⟩
    obtain ⟨hc4, hf4⟩ := bcell hb4
    have Hb4 : Hid (Below w.heap.size w w4) := Hb3.out.trans (hb4.mono (by omega))
    clear hb4
    go_wp2
    go_ret
    exact ⟨rfl, Hb4.out⟩

theorem walk (a b x : Int) (ha : (Lit.int .i64 a).wf = true) (hb : (Lit.int .i64 b).wf = true) (hx : (Lit.int .i64 x).wf = true) (w : World) :
    Calls Try.prog 14 #[.agg #[.int .i64 a, .int .i64 b], .int .i64 x] w fun e w' => e = .returned (.bool true) ∧ Below w.heap.size w w' := by
  have h1 := clampI_tick a
  have hl : limB (max (clampI a) 1) (clampI b) = true := by
    have ht : tickB (max (clampI a) 1) = true := tickB_mk (by omega) (by omega)
    have h1 : decide (1 ≤ max (clampI a) 1) = true := decide_eq_true (by omega)
    unfold limB
    rw [ht, h1, tickB_clamp]
    rfl
  exact core a b x _ _ _ _ _ hl (tickB_clamp x) w (fun v => clamped_any a b x 0 0 v (bounds_i64 ha).2 (bounds_i64 hb).2 (bounds_i64 hx).2 (by omega) (by omega))

set_option maxRecDepth 100000 in
theorem lifted (os : Os) (started : os.Started) (H : Type) (enc : TypeId × Value → H) :
    ReturnsInHanded {} Try.checked os 14 .any (Rows.gcraOnceSpec.pre6 enc Try.prog Try.f14 Rows.gcraOnceRow.domain false) (Rows.gcraOnceSpec.post enc Try.prog Try.f14 false true false false) := by
  refine returnsInHanded_of_change (C := Try.checked) own started (by kernel_rfl) Try.func14
    (ChangeSpec.witness6 (enc := enc) (C := Try.checked) false ⟨#[], #[.agg #[.int .i64 0, .int .i64 0], .int .i64 0], []⟩ 8 (by kernel_rfl) (by kernel_rfl) (by kernel_rfl) (by kernel_rfl)) ?_
  intro W base args ds gs before hval0 hW hcnd _
  have hval : ∀ (j : Nat) t v, Try.f14.params[j]? = some t → args[j]? = some v → Value.okWide Try.prog W .any base t v := hval0
  have hW' := hW
  obtain ⟨p, q, hA0, hV, rfl, hfz, hnd⟩ := hW
  have hA : DataW.TrodAll enc Try.prog W 0 (fun _ => true) true Try.f14.params.toList args.toList ds p := hA0
  rw [Try.params14] at hA hval
  obtain ⟨v0, vs0, d0, ds0, p0, q0, hargs, rfl, rfl, h0, r0⟩ := trodAll_cons hA
  obtain ⟨v1, vs1, d1, ds1, p1, q1, rfl, rfl, rfl, h1, r1⟩ := trodAll_cons r0
  obtain ⟨rfl, rfl, rfl⟩ := trodAll_nil r1
  obtain rfl : args = #[v0, v1] := by cases args; simp_all
  obtain ⟨rfl, rfl⟩ := trodVars_none hV
  obtain ⟨c0, e0, y0, z0, m0, rfl, rfl, rfl, hy0, hz0⟩ := open_agg2 Try.underlying39 (by kernel_rfl) cellsL (hval 0 39 v0 rfl rfl) h0
  obtain ⟨a0, f0, rfl, w0⟩ := DataW.trod_int Try.underlying2 hy0
  obtain ⟨b0, g0, rfl, u0⟩ := DataW.trod_int Try.underlying2 hz0
  simp at f0 g0
  subst f0 g0
  obtain ⟨a1, rfl, rfl, rfl, w1⟩ := open_int Try.underlying2 (hval 1 2 v1 rfl rfl) h1
  clear hA0 hval0
  have sr0 : ∀ (W' : World) (sp : Nat → Bool), DataW.Trod enc Try.prog W' 0 sp true 39 (.agg #[.int .i64 a0, .int .i64 b0]) (.agg [.lit (.int .i64 a0), .lit (.int .i64 b0)]) [] := fun W' sp =>
    shut_agg2 (y0 := (.lit (.int .i64 a0), [])) (y1 := (.lit (.int .i64 b0), [])) Try.underlying39 (by kernel_rfl) cellsL ⟨1, by simp [DataW.trod, Try.underlying2, w0]⟩ ⟨1, by simp [DataW.trod, Try.underlying2, u0]⟩
  refine (walk a0 b0 a1 w0 u0 w1 W).mono fun e W' ⟨he, hg⟩ => ?_
  subst he
  exact ⟨_, rfl, _, _, _, [], _, [], hW', trodAll_mk1 (shut_bool Try.underlying4 _), (trodAll_cons_mk (sr0 _ _) (trodAll_cons_mk (shut_int Try.underlying2 w1) trodAll_mk0)), rfl, hg.frame _, fun h => by cases h⟩

theorem over : Rows.gcraOnceRow.holds Try.pinned (OpenSpec.ofChange Rows.gcraOnceSpec) :=
  OpenClaim.holds_of_wide 14 Try.f14 rfl rfl rfl rfl rfl rfl rfl ⟨rfl, rfl, rfl, rfl, rfl⟩ rfl rfl rfl rfl rfl (by kernel_rfl) Try.func14 (by kernel_rfl)
    (of_decide_eq_true (by kernel_rfl)) (by unfold Func.isWrapper; first | (rw [if_pos (by decide +kernel)]; kernel_rfl) | (rw [if_neg (by decide +kernel)]; exact ⟨rfl, rfl⟩))
    (fun os started H enc _ => lifted os started H enc)

theorem proved : Rows.GcraOnceSaid :=
  over
#print axioms proved
end Go.Proofs.Ytdjiihcbaedmcaa.gcraOnce
