/- MeterAdds: for every input the law returns true, and its arguments read afterwards as they read before. No condition. -/
import Derived.Test.YtecbbdbeihiioaaRows
import Derived.WalkKit
import Derived.ProofKit
import Derived.OpenShut
import Derived.Lib.SmallJoins
import Derived.Below
import Derived.ChangeOld
import Derived.Test.YtecbbdbeihiioaaMtQ
import Derived.Test.YtecbbdbeihiioaaMtP
namespace Go.Proofs.Ytecbbdbeihiioaa.meterAdds
open Go.ChangeShapes Go.WideShapes Go.ChangeAt Go.RowKit Go.Joins
set_option linter.unusedVariables false

theorem own : ownKnob Try.prog.godebug = none := by kernel_rfl

theorem laidOut : laidOutB Try.prog = true := by kernel_rfl
theorem cellsF : Try.prog.cellsOf 55 = 8 := by kernel_rfl

theorem u64_nat {x : Int} (h : (Lit.int .u64 x).wf = true) : ∃ b : Nat, x = (b : Int) ∧ b < 18446744073709551616 := by
  have e1 : IntKind.u64.min = 0 := by decide
  have e2 : IntKind.u64.max = 18446744073709551615 := by decide
  simp only [Lit.wf, e1, e2, Bool.and_eq_true, decide_eq_true_eq] at h
  exact ⟨x.toNat, by omega, by omega⟩

theorem walk (N Bad s l lo hi me sp x : Int) (_ : (Lit.int .i64 N).wf = true) (_ : (Lit.int .i64 Bad).wf = true) (h1 : (Lit.int .u64 s).wf = true) (h2 : (Lit.int .u64 l).wf = true) (h3 : (Lit.int .u64 lo).wf = true) (h4 : (Lit.int .u64 hi).wf = true) (h5 : (Lit.int .u64 me).wf = true) (h6 : (Lit.int .u64 sp).wf = true) (h7 : (Lit.int .u64 x).wf = true) (w : World) :
    Calls Try.prog 8 #[.agg #[.int .i64 N, .int .i64 Bad, .int .u64 s, .int .u64 l, .int .u64 lo, .int .u64 hi, .int .u64 me, .int .u64 sp], .int .u64 x] w fun e w' => e = .returned (.bool true) ∧ Below w.heap.size w w' := by
  obtain ⟨S, rfl, b1⟩ := u64_nat h1
  obtain ⟨L, rfl, b2⟩ := u64_nat h2
  obtain ⟨Lo, rfl, b3⟩ := u64_nat h3
  obtain ⟨Hi, rfl, b4⟩ := u64_nat h4
  obtain ⟨Me, rfl, b5⟩ := u64_nat h5
  obtain ⟨Sp, rfl, b6⟩ := u64_nat h6
  obtain ⟨X, rfl, b7⟩ := u64_nat h7
  by_cases hn : N.tmod 9007199254740992 < 0
  · have hb : -9007199254740992 < N.tmod 9007199254740992 := by
      have := Int.lt_tmod_of_pos N (show (0 : Int) < 9007199254740992 by decide)
      exact this
    exact adds_neg N Bad S L Lo Hi Me Sp X w ⟨b1, b2, b3, b4, b5, b6⟩ b7 hn hb
  · exact adds_core N Bad S L Lo Hi Me Sp X w ⟨b1, b2, b3, b4, b5, b6⟩ b7 hn

set_option maxHeartbeats 8000000 in
set_option maxRecDepth 100000 in
theorem lifted (os : Os) (started : os.Started) (H : Type) (enc : TypeId × Value → H) :
    ReturnsInHanded {} Try.checked os 8 .any (Rows.meterAddsSpec.pre6 enc Try.prog Try.f8 Rows.meterAddsRow.domain false) (Rows.meterAddsSpec.post enc Try.prog Try.f8 false true false false) := by
  refine returnsInHanded_of_change (C := Try.checked) own started (by kernel_rfl) Try.func8
    (ChangeSpec.witness6 (enc := enc) (C := Try.checked) false ⟨#[], #[.agg #[.int .i64 0, .int .i64 0, .int .u64 0, .int .u64 0, .int .u64 0, .int .u64 0, .int .u64 0, .int .u64 0], .int .u64 0], []⟩ 8 (by kernel_rfl) (by kernel_rfl) (by kernel_rfl) (by kernel_rfl)) ?_
  intro W base args ds gs before hval0 hW hcnd _
  have hval : ∀ (j : Nat) t v, Try.f8.params[j]? = some t → args[j]? = some v → Value.okWide Try.prog W .any base t v := hval0
  have hW' := hW
  obtain ⟨p, q, hA0, hV, rfl, hfz, hnd⟩ := hW
  have hA : DataW.TrodAll enc Try.prog W 0 (fun _ => true) true Try.f8.params.toList args.toList ds p := hA0
  rw [Try.params8] at hA hval
  obtain ⟨v0, vs0, d0, ds0, p0, q0, hargs, rfl, rfl, h0, r0⟩ := trodAll_cons hA
  obtain ⟨v1, vs1, d1, ds1, p1, q1, rfl, rfl, rfl, h1, r1⟩ := trodAll_cons r0
  obtain ⟨rfl, rfl, rfl⟩ := trodAll_nil r1
  obtain rfl : args = #[v0, v1] := by cases args; simp_all
  obtain ⟨rfl, rfl⟩ := trodVars_none hV
  have k0 := h0
  have lt0 : ∀ x ∈ p0, x.block < W.heap.size := by obtain ⟨m, hm⟩ := k0; exact DataW.trod_lt m _ _ _ hm
  obtain ⟨x00, x01, x02, x03, x04, x05, x06, x07, y00, y01, y02, y03, y04, y05, y06, y07, m0, rfl, hy00, hy01, hy02, hy03, hy04, hy05, hy06, hy07⟩ := open_agg8 Try.underlying55 (by kernel_rfl) cellsF (hval 0 55 v0 rfl rfl) h0
  obtain ⟨a00, g00, rfl, w00⟩ := DataW.trod_int Try.underlying3 hy00
  obtain ⟨a01, g01, rfl, w01⟩ := DataW.trod_int Try.underlying3 hy01
  obtain ⟨a02, g02, rfl, w02⟩ := DataW.trod_int Try.underlying35 hy02
  obtain ⟨a03, g03, rfl, w03⟩ := DataW.trod_int Try.underlying35 hy03
  obtain ⟨a04, g04, rfl, w04⟩ := DataW.trod_int Try.underlying35 hy04
  obtain ⟨a05, g05, rfl, w05⟩ := DataW.trod_int Try.underlying35 hy05
  obtain ⟨a06, g06, rfl, w06⟩ := DataW.trod_int Try.underlying35 hy06
  obtain ⟨a07, g07, rfl, w07⟩ := DataW.trod_int Try.underlying35 hy07
  simp only [List.cons.injEq, and_true] at g00 g01 g02 g03 g04 g05 g06 g07
  subst g00 g01 g02 g03 g04 g05 g06 g07
  obtain ⟨a1, rfl, rfl, rfl, w1⟩ := open_int Try.underlying35 (hval 1 35 v1 rfl rfl) h1
  clear hA0 hval0
  refine (walk a00 a01 a02 a03 a04 a05 a06 a07 a1 w00 w01 w02 w03 w04 w05 w06 w07 w1 W).mono fun e W' ⟨he, hg⟩ => ?_
  subst he
  exact ⟨_, rfl, _, _, _, [], _, [], hW', trodAll_mk1 (shut_bool Try.underlying4 _), (trodAll_cons_mk (Below.trod laidOut (by kernel_rfl) (of_decide_eq_true (by kernel_rfl)) k0 hg lt0) (trodAll_cons_mk (shut_int Try.underlying35 w1) trodAll_mk0)), rfl, hg.frame _, fun h => by cases h⟩

theorem over : Rows.meterAddsRow.holds Try.pinned (OpenSpec.ofChange Rows.meterAddsSpec) :=
  OpenClaim.holds_of_wide 8 Try.f8 rfl rfl rfl rfl rfl rfl rfl ⟨rfl, rfl, rfl, rfl, rfl⟩ rfl rfl rfl rfl rfl (by kernel_rfl) Try.func8 (by kernel_rfl)
    (of_decide_eq_true (by kernel_rfl)) (by unfold Func.isWrapper; first | (rw [if_pos (by decide +kernel)]; kernel_rfl) | (rw [if_neg (by decide +kernel)]; exact ⟨rfl, rfl⟩))
    (fun os started H enc _ => lifted os started H enc)

theorem proved : Rows.MeterAddsSaid :=
  over
#print axioms proved
end Go.Proofs.Ytecbbdbeihiioaa.meterAdds
