/- MeterQuantiles: for every input the law returns true, and its arguments read afterwards as they read before. No condition. -/
import Derived.Test.YtecbbdbeihiioaaRows
import Derived.WalkKit
import Derived.ProofKit
import Derived.OpenShut
import Derived.Lib.SmallJoins
import Derived.Test.YtecbbdbeihiioaaMtV
import Derived.SizedLaws
import Derived.Below
import Derived.ChangeOld
import Derived.Test.YtecbbdbeihiioaaMtQe
import Derived.Test.YtecbbdbeihiioaaMtM
namespace Go.Proofs.Ytecbbdbeihiioaa.meterQuantiles
open Go.ChangeShapes Go.WideShapes Go.ChangeAt Go.RowKit Go.Joins
set_option linter.unusedVariables false

theorem own : ownKnob Try.prog.godebug = none := by kernel_rfl

theorem laidOut : laidOutB Try.prog = true := by kernel_rfl
theorem bytes_u64s : Try.prog.bytesOf 35 = 8 := by kernel_rfl

theorem walk (v : Value) (L : List Int) (q : Int) (hq : (Lit.int .u64 q).wf = true) (w : World) (h : IntsAt .u64 w v L) (hn : L.length * 8 ≤ 140737488351232) :
    Calls Try.prog 5 #[v, .int .u64 q] w fun e w' => e = .returned (.bool true) ∧ Below w.heap.size w w' := by
  have hu := u64s_of h
  have hn' : ((L.map Int.toNat).length + 2) * 8 ≤ 140737488355328 := by simp; omega
  obtain ⟨h0, h1⟩ := u64_of_wf hq
  obtain ⟨b, rfl⟩ : ∃ b : Nat, q = (b : Int) := ⟨q.toNat, by omega⟩
  obtain ⟨Y, f, hY, k1, k2⟩ := quant_both (L.map Int.toNat) b (by omega) hu.1
  exact quantiles_core v _ b w Y f hu hn' hY awake8 k1 k2

set_option maxRecDepth 100000 in
theorem lifted (os : Os) (started : os.Started) (H : Type) (enc : TypeId × Value → H) :
    ReturnsInHanded {} Try.checked os 5 .any (Rows.meterQuantilesSpec.pre6 enc Try.prog Try.f5 Rows.meterQuantilesRow.domain false) (Rows.meterQuantilesSpec.post enc Try.prog Try.f5 false true false false) := by
  refine returnsInHanded_of_change_sized (C := Try.checked) own started (by kernel_rfl) Try.func5
    (ChangeSpec.witness6 (enc := enc) (C := Try.checked) false ⟨#[], #[.slice none 0 0, .int .u64 0], []⟩ 8 (by kernel_rfl) (by kernel_rfl) (by kernel_rfl) (by kernel_rfl)) ?_
  intro W base args ds gs before hval0 hW hcnd hsz0 _
  have hsz : (DataW.weightsEach Try.prog (Try.f5.params.toList ++ Rows.meterQuantilesSpec.plain.varTypes Try.prog) (ds ++ gs)).all (· ≤ reachBytes) = true := hsz0
  clear hsz0
  have hval : ∀ (j : Nat) t v, Try.f5.params[j]? = some t → args[j]? = some v → Value.okWide Try.prog W .any base t v := hval0
  have hW' := hW
  obtain ⟨p, q, hA0, hV, rfl, hfz, hnd⟩ := hW
  have hA : DataW.TrodAll enc Try.prog W 0 (fun _ => true) true Try.f5.params.toList args.toList ds p := hA0
  rw [Try.params5] at hA hval hsz
  obtain ⟨v0, vs0, d0, ds0, p0, q0, hargs, rfl, rfl, h0, r0⟩ := trodAll_cons hA
  obtain ⟨v1, vs1, d1, ds1, p1, q1, rfl, rfl, rfl, h1, r1⟩ := trodAll_cons r0
  obtain ⟨rfl, rfl, rfl⟩ := trodAll_nil r1
  obtain rfl : args = #[v0, v1] := by cases args; simp_all
  obtain ⟨rfl, rfl⟩ := trodVars_none hV
  have k0 := h0
  have lt0 : ∀ x ∈ p0, x.block < W.heap.size := by obtain ⟨m, hm⟩ := k0; exact DataW.trod_lt m _ _ _ hm
  obtain ⟨sa0, sl0, sc0, rfl⟩ := okWide_slice Try.underlying22 (hval 0 22 v0 rfl rfl)
  obtain ⟨L0, ww0, wn0⟩ := ints_open (n := 8) Try.underlying22 Try.underlying35 (by kernel_rfl) h0 (fun el sp hd => by
    subst hd
    have hs := sized_slice hsz (j := 0) (t := 22) (e := 35) rfl rfl Try.underlying22
    rw [bytes_u64s] at hs
    simpa [reachBytes] using hs)
  obtain ⟨a1, rfl, rfl, rfl, w1⟩ := open_int Try.underlying35 (hval 1 35 v1 rfl rfl) h1
  clear hA0 hval0
  refine (walk _ L0 a1 w1 W ww0 wn0).mono fun e W' ⟨he, hg⟩ => ?_
  subst he
  exact ⟨_, rfl, _, _, _, [], _, [], hW', trodAll_mk1 (shut_bool Try.underlying4 _), (trodAll_cons_mk (Below.trod laidOut (by kernel_rfl) (of_decide_eq_true (by kernel_rfl)) k0 hg lt0) (trodAll_cons_mk (shut_int Try.underlying35 w1) trodAll_mk0)), rfl, hg.frame _, fun h => by cases h⟩

theorem over : Rows.meterQuantilesRow.holds Try.pinned (OpenSpec.ofChange Rows.meterQuantilesSpec) :=
  OpenClaim.holds_of_wide 5 Try.f5 rfl rfl rfl rfl rfl rfl rfl ⟨rfl, rfl, rfl, rfl, rfl⟩ rfl rfl rfl rfl rfl (by kernel_rfl) Try.func5 (by kernel_rfl)
    (of_decide_eq_true (by kernel_rfl)) (by unfold Func.isWrapper; first | (rw [if_pos (by decide +kernel)]; kernel_rfl) | (rw [if_neg (by decide +kernel)]; exact ⟨rfl, rfl⟩))
    (fun os started H enc _ => lifted os started H enc)

theorem proved : Rows.MeterQuantilesSaid :=
  over
#print axioms proved
end Go.Proofs.Ytecbbdbeihiioaa.meterQuantiles
