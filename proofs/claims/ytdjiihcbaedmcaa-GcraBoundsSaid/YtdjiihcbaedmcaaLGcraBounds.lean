/- GcraBounds: for every input the law returns true, and its arguments read afterwards as they read before. No condition. -/
import Derived.Test.YtdjiihcbaedmcaaRows
import Derived.WalkKit
import Derived.ProofKit
import Derived.OpenShut
import Derived.Lib.SmallJoins
import Derived.SizedLaws
import Derived.Below
import Derived.ChangeOld
import Derived.Test.YtdjiihcbaedmcaaGcraYb
import Derived.Test.YtdjiihcbaedmcaaGcraYc
import Derived.Test.YtdjiihcbaedmcaaGcraM
namespace Go.Proofs.Ytdjiihcbaedmcaa.gcraBounds
open Go.ChangeShapes Go.WideShapes Go.ChangeAt Go.RowKit Go.Joins
set_option linter.unusedVariables false

theorem own : ownKnob Try.prog.godebug = none := by kernel_rfl

theorem cellsL : Try.prog.cellsOf 39 = 2 := by kernel_rfl

theorem laidOut : laidOutB Try.prog = true := by kernel_rfl
theorem bytesA : Try.prog.bytesOf 79 = 16 := by kernel_rfl

theorem walk (a b x : Int) (v : Value) (L : List (Int × Int)) (y z : Int) (ha : (Lit.int .i64 a).wf = true) (hb : (Lit.int .i64 b).wf = true) (hx : (Lit.int .i64 x).wf = true) (hy : (Lit.int .i64 y).wf = true) (hz : (Lit.int .i64 z).wf = true) (w : World) (h : AskAt w v L) (hn : (L.length + 1) * 16 ≤ 140737488355328 ∧ ∀ i, (L.getD i (0, 0)).1 ≤ 9223372036854775807 ∧ (L.getD i (0, 0)).2 ≤ 9223372036854775807) :
    Calls Try.prog 16 #[.agg #[.int .i64 a, .int .i64 b], .int .i64 x, v, .int .i64 y, .int .i64 z] w fun e w' => e = .returned (.bool true) ∧ Below w.heap.size w w' := by
  have h1 := clampI_tick a
  have hl : limB (max (clampI a) 1) (clampI b) = true := by
    have ht : tickB (max (clampI a) 1) = true := tickB_mk (by omega) (by omega)
    have h1 : decide (1 ≤ max (clampI a) 1) = true := decide_eq_true (by omega)
    unfold limB
    rw [ht, h1, tickB_clamp]
    rfl
  have kc := fun v => clamped_any a b x y z v (bounds_i64 ha).2 (bounds_i64 hb).2 (bounds_i64 hx).2 (bounds_i64 hy).2 (bounds_i64 hz).2
  have tx := tickB_clamp x; have ty := tickB_clamp y; have tz := tickB_clamp z
  unfold ClampedRes at kc
  by_cases hp : 0 < L.length
  · by_cases hA : L.length ≤ 200
    · by_cases hs : clampI z < clampI y
      · exact bounds_sA a b x y z _ _ _ _ _ v L w h hp hn.2 hA hs kc hl tx ty tz
      · exact bounds_nA a b x y z _ _ _ _ _ v L w h hp hn.2 hA (by omega) kc hl tx ty tz
    · by_cases hs : clampI z < clampI y
      · exact bounds_sB a b x y z _ _ _ _ _ v L w h hp hn.2 (by omega) hs kc hl tx ty tz
      · exact bounds_nB a b x y z _ _ _ _ _ v L w h hp hn.2 (by omega) (by omega) kc hl tx ty tz
  · obtain ⟨A, c, rfl, _, hc, _⟩ := h
    have e : L.length = 0 := by omega
    rw [e]
    by_cases hs : clampI z < clampI y
    · exact bounds_sZ a b x y z _ _ _ _ _ w c A hc hs kc hl tx ty tz
    · exact bounds_nZ a b x y z _ _ _ _ _ w c A hc (by omega) kc hl tx ty tz

set_option maxRecDepth 100000 in
theorem lifted (os : Os) (started : os.Started) (H : Type) (enc : TypeId × Value → H) :
    ReturnsInHanded {} Try.checked os 16 .any (Rows.gcraBoundsSpec.pre6 enc Try.prog Try.f16 Rows.gcraBoundsRow.domain false) (Rows.gcraBoundsSpec.post enc Try.prog Try.f16 false true false false) := by
  refine returnsInHanded_of_change_sized (C := Try.checked) own started (by kernel_rfl) Try.func16
    (ChangeSpec.witness6 (enc := enc) (C := Try.checked) false ⟨#[], #[.agg #[.int .i64 0, .int .i64 0], .int .i64 0, .slice none 0 0, .int .i64 0, .int .i64 0], []⟩ 8 (by kernel_rfl) (by kernel_rfl) (by kernel_rfl) (by kernel_rfl)) ?_
  intro W base args ds gs before hval0 hW hcnd hsz0 _
  have hsz : (DataW.weightsEach Try.prog (Try.f16.params.toList ++ Rows.gcraBoundsSpec.plain.varTypes Try.prog) (ds ++ gs)).all (· ≤ reachBytes) = true := hsz0
  clear hsz0
  have hval : ∀ (j : Nat) t v, Try.f16.params[j]? = some t → args[j]? = some v → Value.okWide Try.prog W .any base t v := hval0
  have hW' := hW
  obtain ⟨p, q, hA0, hV, rfl, hfz, hnd⟩ := hW
  have hA : DataW.TrodAll enc Try.prog W 0 (fun _ => true) true Try.f16.params.toList args.toList ds p := hA0
  rw [Try.params16] at hA hval hsz
  obtain ⟨v0, vs0, d0, ds0, p0, q0, hargs, rfl, rfl, h0, r0⟩ := trodAll_cons hA
  obtain ⟨v1, vs1, d1, ds1, p1, q1, rfl, rfl, rfl, h1, r1⟩ := trodAll_cons r0
  obtain ⟨v2, vs2, d2, ds2, p2, q2, rfl, rfl, rfl, h2, r2⟩ := trodAll_cons r1
  obtain ⟨v3, vs3, d3, ds3, p3, q3, rfl, rfl, rfl, h3, r3⟩ := trodAll_cons r2
  obtain ⟨v4, vs4, d4, ds4, p4, q4, rfl, rfl, rfl, h4, r4⟩ := trodAll_cons r3
  obtain ⟨rfl, rfl, rfl⟩ := trodAll_nil r4
  obtain rfl : args = #[v0, v1, v2, v3, v4] := by cases args; simp_all
  obtain ⟨rfl, rfl⟩ := trodVars_none hV
  obtain ⟨c0, e0, y0, z0, m0, rfl, rfl, rfl, hy0, hz0⟩ := open_agg2 Try.underlying39 (by kernel_rfl) cellsL (hval 0 39 v0 rfl rfl) h0
  obtain ⟨a0, f0, rfl, w0⟩ := DataW.trod_int Try.underlying2 hy0
  obtain ⟨b0, g0, rfl, u0⟩ := DataW.trod_int Try.underlying2 hz0
  simp at f0 g0
  subst f0 g0
  obtain ⟨a1, rfl, rfl, rfl, w1⟩ := open_int Try.underlying2 (hval 1 2 v1 rfl rfl) h1
  have k2 := h2
  have lt2 : ∀ x ∈ p2, x.block < W.heap.size := by obtain ⟨m, hm⟩ := k2; exact DataW.trod_lt m _ _ _ hm
  obtain ⟨sa2, sl2, sc2, rfl⟩ := okWide_slice Try.underlying67 (hval 2 67 v2 rfl rfl)
  obtain ⟨L2, ww2, wn2⟩ := ask_open_big h2 (fun el sp hd => by
    subst hd
    have hs := sized_slice hsz (j := 2) (t := 67) (e := 79) rfl rfl Try.underlying67
    rw [bytesA] at hs
    simpa [reachBytes] using hs)
  obtain ⟨a3, rfl, rfl, rfl, w3⟩ := open_int Try.underlying2 (hval 3 2 v3 rfl rfl) h3
  obtain ⟨a4, rfl, rfl, rfl, w4⟩ := open_int Try.underlying2 (hval 4 2 v4 rfl rfl) h4
  clear hA0 hval0
  have sr0 : ∀ (W' : World) (sp : Nat → Bool), DataW.Trod enc Try.prog W' 0 sp true 39 (.agg #[.int .i64 a0, .int .i64 b0]) (.agg [.lit (.int .i64 a0), .lit (.int .i64 b0)]) [] := fun W' sp =>
    shut_agg2 (y0 := (.lit (.int .i64 a0), [])) (y1 := (.lit (.int .i64 b0), [])) Try.underlying39 (by kernel_rfl) cellsL ⟨1, by simp [DataW.trod, Try.underlying2, w0]⟩ ⟨1, by simp [DataW.trod, Try.underlying2, u0]⟩
  refine (walk a0 b0 a1 _ L2 a3 a4 w0 u0 w1 w3 w4 W ww2 wn2).mono fun e W' ⟨he, hg⟩ => ?_
  subst he
  exact ⟨_, rfl, _, _, _, [], _, [], hW', trodAll_mk1 (shut_bool Try.underlying4 _), (trodAll_cons_mk (sr0 _ _) (trodAll_cons_mk (shut_int Try.underlying2 w1) (trodAll_cons_mk (Below.trod laidOut (by kernel_rfl) (of_decide_eq_true (by kernel_rfl)) k2 hg lt2) (trodAll_cons_mk (shut_int Try.underlying2 w3) (trodAll_cons_mk (shut_int Try.underlying2 w4) trodAll_mk0))))), rfl, hg.frame _, fun h => by cases h⟩

theorem over : Rows.gcraBoundsRow.holds Try.pinned (OpenSpec.ofChange Rows.gcraBoundsSpec) :=
  OpenClaim.holds_of_wide 16 Try.f16 rfl rfl rfl rfl rfl rfl rfl ⟨rfl, rfl, rfl, rfl, rfl⟩ rfl rfl rfl rfl rfl (by kernel_rfl) Try.func16 (by kernel_rfl)
    (of_decide_eq_true (by kernel_rfl)) (by unfold Func.isWrapper; first | (rw [if_pos (by decide +kernel)]; kernel_rfl) | (rw [if_neg (by decide +kernel)]; exact ⟨rfl, rfl⟩))
    (fun os started H enc _ => lifted os started H enc)

theorem proved : Rows.GcraBoundsSaid :=
  over
#print axioms proved
end Go.Proofs.Ytdjiihcbaedmcaa.gcraBounds
