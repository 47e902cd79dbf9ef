/- MeterMerges: for every input the law returns true, and its arguments read afterwards as they read before. No condition. -/
import Derived.Test.YtecbbdbeihiioaaRows
import Derived.WalkKit
import Derived.ProofKit
import Derived.OpenShut
import Derived.Lib.SmallJoins
import Derived.Below
import Derived.ChangeOld
import Derived.Test.YtecbbdbeihiioaaMtQ
import Derived.Test.YtecbbdbeihiioaaMtX
import Derived.Test.YtecbbdbeihiioaaMtM
namespace Go.Proofs.Ytecbbdbeihiioaa.meterMerges
open Go.ChangeShapes Go.WideShapes Go.ChangeAt Go.RowKit Go.Joins
set_option linter.unusedVariables false

theorem own : ownKnob Try.prog.godebug = none := by kernel_rfl

theorem laidOut : laidOutB Try.prog = true := by kernel_rfl
theorem cellsF : Try.prog.cellsOf 55 = 8 := by kernel_rfl

theorem u64_nat {x : Int} (h : (Lit.int .u64 x).wf = true) : ∃ b : Nat, x = (b : Int) ∧ b < 18446744073709551616 := by
  have e1 : IntKind.u64.min = 0 := by decide
  have e2 : IntKind.u64.max = 18446744073709551615 := by decide
  simp only [Lit.wf, e1, e2, Bool.and_eq_true, decide_eq_true_eq] at h
  exact ⟨x.toNat, by omega, by omega⟩
theorem i64_wf {x : Int} (h : (Lit.int .i64 x).wf = true) : -9223372036854775808 ≤ x ∧ x ≤ 9223372036854775807 := by
  have e1 : IntKind.i64.min = -9223372036854775808 := by decide
  have e2 : IntKind.i64.max = 9223372036854775807 := by decide
  simp only [Lit.wf, e1, e2, Bool.and_eq_true, decide_eq_true_eq] at h
  omega

theorem walk (N Bad s l lo hi me sp N2 Bad2 s' l' lo' hi' me' sp' : Int) (h01 : (Lit.int .i64 N).wf = true) (h02 : (Lit.int .i64 Bad).wf = true) (h1 : (Lit.int .u64 s).wf = true) (h2 : (Lit.int .u64 l).wf = true) (h3 : (Lit.int .u64 lo).wf = true) (h4 : (Lit.int .u64 hi).wf = true) (h5 : (Lit.int .u64 me).wf = true) (h6 : (Lit.int .u64 sp).wf = true)
    (_ : (Lit.int .i64 N2).wf = true) (_ : (Lit.int .i64 Bad2).wf = true) (g1 : (Lit.int .u64 s').wf = true) (g2 : (Lit.int .u64 l').wf = true) (g3 : (Lit.int .u64 lo').wf = true) (g4 : (Lit.int .u64 hi').wf = true) (g5 : (Lit.int .u64 me').wf = true) (g6 : (Lit.int .u64 sp').wf = true) (w : World) :
    Calls Try.prog 9 #[.agg #[.int .i64 N, .int .i64 Bad, .int .u64 s, .int .u64 l, .int .u64 lo, .int .u64 hi, .int .u64 me, .int .u64 sp], .agg #[.int .i64 N2, .int .i64 Bad2, .int .u64 s', .int .u64 l', .int .u64 lo', .int .u64 hi', .int .u64 me', .int .u64 sp']] w fun e w' => e = .returned (.bool true) ∧ Below w.heap.size w w' := by
  obtain ⟨S, rfl, b1⟩ := u64_nat h1
  obtain ⟨L, rfl, b2⟩ := u64_nat h2
  obtain ⟨Lo, rfl, b3⟩ := u64_nat h3
  obtain ⟨Hi, rfl, b4⟩ := u64_nat h4
  obtain ⟨Me, rfl, b5⟩ := u64_nat h5
  obtain ⟨Sp, rfl, b6⟩ := u64_nat h6
  obtain ⟨S2, rfl, c1⟩ := u64_nat g1
  obtain ⟨L2, rfl, c2⟩ := u64_nat g2
  obtain ⟨Lo2, rfl, c3⟩ := u64_nat g3
  obtain ⟨Hi2, rfl, c4⟩ := u64_nat g4
  obtain ⟨Me2, rfl, c5⟩ := u64_nat g5
  obtain ⟨Sp2, rfl, c6⟩ := u64_nat g6
  exact merges_core N Bad N2 Bad2 S L Lo Hi Me Sp S2 L2 Lo2 Hi2 Me2 Sp2 w _ _ awake8
    (fun v => merge_any ⟨N, Bad, S, L, Lo, Hi, Me, Sp⟩ ⟨N2, Bad2, S2, L2, Lo2, Hi2, Me2, Sp2⟩ v ⟨b1, b2, b3, b4, b5, b6⟩ ⟨c1, c2, c3, c4, c5, c6⟩ (i64_wf h01) (i64_wf h02))
    (fun v => docmerge_any N Bad N2 Bad2 S L Lo Hi Me Sp S2 L2 Lo2 Hi2 Me2 Sp2 v ⟨b1, b2, b3, b4, b5, b6⟩ ⟨c1, c2, c3, c4, c5, c6⟩)

set_option maxHeartbeats 8000000 in
set_option maxRecDepth 100000 in
theorem lifted (os : Os) (started : os.Started) (H : Type) (enc : TypeId × Value → H) :
    ReturnsInHanded {} Try.checked os 9 .any (Rows.meterMergesSpec.pre6 enc Try.prog Try.f9 Rows.meterMergesRow.domain false) (Rows.meterMergesSpec.post enc Try.prog Try.f9 false true false false) := by
  refine returnsInHanded_of_change (C := Try.checked) own started (by kernel_rfl) Try.func9
    (ChangeSpec.witness6 (enc := enc) (C := Try.checked) false ⟨#[], #[.agg #[.int .i64 0, .int .i64 0, .int .u64 0, .int .u64 0, .int .u64 0, .int .u64 0, .int .u64 0, .int .u64 0], .agg #[.int .i64 0, .int .i64 0, .int .u64 0, .int .u64 0, .int .u64 0, .int .u64 0, .int .u64 0, .int .u64 0]], []⟩ 8 (by kernel_rfl) (by kernel_rfl) (by kernel_rfl) (by kernel_rfl)) ?_
  intro W base args ds gs before hval0 hW hcnd _
  have hval : ∀ (j : Nat) t v, Try.f9.params[j]? = some t → args[j]? = some v → Value.okWide Try.prog W .any base t v := hval0
  have hW' := hW
  obtain ⟨p, q, hA0, hV, rfl, hfz, hnd⟩ := hW
  have hA : DataW.TrodAll enc Try.prog W 0 (fun _ => true) true Try.f9.params.toList args.toList ds p := hA0
  rw [Try.params9] at hA hval
  obtain ⟨v0, vs0, d0, ds0, p0, q0, hargs, rfl, rfl, h0, r0⟩ := trodAll_cons hA
  obtain ⟨v1, vs1, d1, ds1, p1, q1, rfl, rfl, rfl, h1, r1⟩ := trodAll_cons r0
  obtain ⟨rfl, rfl, rfl⟩ := trodAll_nil r1
  obtain rfl : args = #[v0, v1] := by cases args; simp_all
  obtain ⟨rfl, rfl⟩ := trodVars_none hV
  have k0 := h0
  have lt0 : ∀ x ∈ p0, x.block < W.heap.size := by obtain ⟨m, hm⟩ := k0; exact DataW.trod_lt m _ _ _ hm
  obtain ⟨x00, x01, x02, x03, x04, x05, x06, x07, y00, y01, y02, y03, y04, y05, y06, y07, m0, rfl, hy00, hy01, hy02, hy03, hy04, hy05, hy06, hy07⟩ := open_agg8 Try.underlying55 (by kernel_rfl) cellsF (hval 0 55 v0 rfl rfl) h0
  obtain ⟨a00, g00, rfl, w00⟩ := DataW.trod_int Try.underlying3 hy00
  obtain ⟨a01, g01, rfl, w01⟩ := DataW.trod_int Try.underlying3 hy01
  obtain ⟨a02, g02, rfl, w02⟩ := DataW.trod_int Try.underlying35 hy02
  obtain ⟨a03, g03, rfl, w03⟩ := DataW.trod_int Try.underlying35 hy03
  obtain ⟨a04, g04, rfl, w04⟩ := DataW.trod_int Try.underlying35 hy04
  obtain ⟨a05, g05, rfl, w05⟩ := DataW.trod_int Try.underlying35 hy05
  obtain ⟨a06, g06, rfl, w06⟩ := DataW.trod_int Try.underlying35 hy06
  obtain ⟨a07, g07, rfl, w07⟩ := DataW.trod_int Try.underlying35 hy07
  simp only [List.cons.injEq, and_true] at g00 g01 g02 g03 g04 g05 g06 g07
  subst g00 g01 g02 g03 g04 g05 g06 g07
  have k1 := h1
  have lt1 : ∀ x ∈ p1, x.block < W.heap.size := by obtain ⟨m, hm⟩ := k1; exact DataW.trod_lt m _ _ _ hm
  obtain ⟨x10, x11, x12, x13, x14, x15, x16, x17, y10, y11, y12, y13, y14, y15, y16, y17, m1, rfl, hy10, hy11, hy12, hy13, hy14, hy15, hy16, hy17⟩ := open_agg8 Try.underlying55 (by kernel_rfl) cellsF (hval 1 55 v1 rfl rfl) h1
  obtain ⟨a10, g10, rfl, w10⟩ := DataW.trod_int Try.underlying3 hy10
  obtain ⟨a11, g11, rfl, w11⟩ := DataW.trod_int Try.underlying3 hy11
  obtain ⟨a12, g12, rfl, w12⟩ := DataW.trod_int Try.underlying35 hy12
  obtain ⟨a13, g13, rfl, w13⟩ := DataW.trod_int Try.underlying35 hy13
  obtain ⟨a14, g14, rfl, w14⟩ := DataW.trod_int Try.underlying35 hy14
  obtain ⟨a15, g15, rfl, w15⟩ := DataW.trod_int Try.underlying35 hy15
  obtain ⟨a16, g16, rfl, w16⟩ := DataW.trod_int Try.underlying35 hy16
  obtain ⟨a17, g17, rfl, w17⟩ := DataW.trod_int Try.underlying35 hy17
  simp only [List.cons.injEq, and_true] at g10 g11 g12 g13 g14 g15 g16 g17
  subst g10 g11 g12 g13 g14 g15 g16 g17
  clear hA0 hval0
  refine (walk a00 a01 a02 a03 a04 a05 a06 a07 a10 a11 a12 a13 a14 a15 a16 a17 w00 w01 w02 w03 w04 w05 w06 w07 w10 w11 w12 w13 w14 w15 w16 w17 W).mono fun e W' ⟨he, hg⟩ => ?_
  subst he
  exact ⟨_, rfl, _, _, _, [], _, [], hW', trodAll_mk1 (shut_bool Try.underlying4 _), (trodAll_cons_mk (Below.trod laidOut (by kernel_rfl) (of_decide_eq_true (by kernel_rfl)) k0 hg lt0) (trodAll_cons_mk (Below.trod laidOut (by kernel_rfl) (of_decide_eq_true (by kernel_rfl)) k1 hg lt1) trodAll_mk0)), rfl, hg.frame _, fun h => by cases h⟩

theorem over : Rows.meterMergesRow.holds Try.pinned (OpenSpec.ofChange Rows.meterMergesSpec) :=
  OpenClaim.holds_of_wide 9 Try.f9 rfl rfl rfl rfl rfl rfl rfl ⟨rfl, rfl, rfl, rfl, rfl⟩ rfl rfl rfl rfl rfl (by kernel_rfl) Try.func9 (by kernel_rfl)
    (of_decide_eq_true (by kernel_rfl)) (by unfold Func.isWrapper; first | (rw [if_pos (by decide +kernel)]; kernel_rfl) | (rw [if_neg (by decide +kernel)]; exact ⟨rfl, rfl⟩))
    (fun os started H enc _ => lifted os started H enc)

theorem proved : Rows.MeterMergesSaid :=
  over
#print axioms proved
end Go.Proofs.Ytecbbdbeihiioaa.meterMerges
