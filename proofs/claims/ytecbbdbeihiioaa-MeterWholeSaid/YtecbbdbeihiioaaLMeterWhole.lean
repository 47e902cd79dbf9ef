/- MeterWhole: for every input the law returns true, and its arguments read afterwards as they read before. No condition. -/
import Derived.Test.YtecbbdbeihiioaaRows
import Derived.WalkKit
import Derived.ProofKit
import Derived.OpenShut
import Derived.Lib.SmallJoins
import Derived.Test.YtecbbdbeihiioaaMtV
import Derived.SizedLaws
import Derived.Below
import Derived.ChangeOld
import Derived.Test.YtecbbdbeihiioaaMtWb
import Derived.Test.YtecbbdbeihiioaaMtM
namespace Go.Proofs.Ytecbbdbeihiioaa.meterWhole
open Go.ChangeShapes Go.WideShapes Go.ChangeAt Go.RowKit Go.Joins
set_option linter.unusedVariables false

theorem own : ownKnob Try.prog.godebug = none := by kernel_rfl

theorem laidOut : laidOutB Try.prog = true := by kernel_rfl
theorem bytes_i32s : Try.prog.bytesOf 21 = 4 := by kernel_rfl

theorem walk (v : Value) (L : List Int) (u : Value) (P : List Int) (bad : Int) (hb : (Lit.int .u8 bad).wf = true) (w : World) (h : IntsAt .i32 w v L) (hn : L.length * 4 ≤ 140737488351232) (h' : IntsAt .i32 w u P) (hn' : P.length * 4 ≤ 140737488351232) :
    Calls Try.prog 10 #[v, u, .int .u8 bad] w fun e w' => e = .returned (.bool true) ∧ Below w.heap.size w w' :=
  wholes_core v u L P bad w h h' (u8_of_wf hb).1 (u8_of_wf hb).2 awake8

set_option maxRecDepth 100000 in
theorem lifted (os : Os) (started : os.Started) (H : Type) (enc : TypeId × Value → H) :
    ReturnsInHanded {} Try.checked os 10 .any (Rows.meterWholeSpec.pre6 enc Try.prog Try.f10 Rows.meterWholeRow.domain false) (Rows.meterWholeSpec.post enc Try.prog Try.f10 false true false false) := by
  refine returnsInHanded_of_change_sized (C := Try.checked) own started (by kernel_rfl) Try.func10
    (ChangeSpec.witness6 (enc := enc) (C := Try.checked) false ⟨#[], #[.slice none 0 0, .slice none 0 0, .int .u8 0], []⟩ 8 (by kernel_rfl) (by kernel_rfl) (by kernel_rfl) (by kernel_rfl)) ?_
  intro W base args ds gs before hval0 hW hcnd hsz0 _
  have hsz : (DataW.weightsEach Try.prog (Try.f10.params.toList ++ Rows.meterWholeSpec.plain.varTypes Try.prog) (ds ++ gs)).all (· ≤ reachBytes) = true := hsz0
  clear hsz0
  have hval : ∀ (j : Nat) t v, Try.f10.params[j]? = some t → args[j]? = some v → Value.okWide Try.prog W .any base t v := hval0
  have hW' := hW
  obtain ⟨p, q, hA0, hV, rfl, hfz, hnd⟩ := hW
  have hA : DataW.TrodAll enc Try.prog W 0 (fun _ => true) true Try.f10.params.toList args.toList ds p := hA0
  rw [Try.params10] at hA hval hsz
  obtain ⟨v0, vs0, d0, ds0, p0, q0, hargs, rfl, rfl, h0, r0⟩ := trodAll_cons hA
  obtain ⟨v1, vs1, d1, ds1, p1, q1, rfl, rfl, rfl, h1, r1⟩ := trodAll_cons r0
  obtain ⟨v2, vs2, d2, ds2, p2, q2, rfl, rfl, rfl, h2, r2⟩ := trodAll_cons r1
  obtain ⟨rfl, rfl, rfl⟩ := trodAll_nil r2
  obtain rfl : args = #[v0, v1, v2] := by cases args; simp_all
  obtain ⟨rfl, rfl⟩ := trodVars_none hV
  have k0 := h0
  have lt0 : ∀ x ∈ p0, x.block < W.heap.size := by obtain ⟨m, hm⟩ := k0; exact DataW.trod_lt m _ _ _ hm
  obtain ⟨sa0, sl0, sc0, rfl⟩ := okWide_slice Try.underlying68 (hval 0 68 v0 rfl rfl)
  obtain ⟨L0, ww0, wn0⟩ := ints_open (n := 4) Try.underlying68 Try.underlying21 (by kernel_rfl) h0 (fun el sp hd => by
    subst hd
    have hs := sized_slice hsz (j := 0) (t := 68) (e := 21) rfl rfl Try.underlying68
    rw [bytes_i32s] at hs
    simpa [reachBytes] using hs)
  have k1 := h1
  have lt1 : ∀ x ∈ p1, x.block < W.heap.size := by obtain ⟨m, hm⟩ := k1; exact DataW.trod_lt m _ _ _ hm
  obtain ⟨sa1, sl1, sc1, rfl⟩ := okWide_slice Try.underlying68 (hval 1 68 v1 rfl rfl)
  obtain ⟨L1, ww1, wn1⟩ := ints_open (n := 4) Try.underlying68 Try.underlying21 (by kernel_rfl) h1 (fun el sp hd => by
    subst hd
    have hs := sized_slice hsz (j := 1) (t := 68) (e := 21) rfl rfl Try.underlying68
    rw [bytes_i32s] at hs
    simpa [reachBytes] using hs)
  obtain ⟨a2, rfl, rfl, rfl, w2⟩ := open_int Try.underlying5 (hval 2 5 v2 rfl rfl) h2
  clear hA0 hval0
  refine (walk _ L0 _ L1 a2 w2 W ww0 wn0 ww1 wn1).mono fun e W' ⟨he, hg⟩ => ?_
  subst he
  exact ⟨_, rfl, _, _, _, [], _, [], hW', trodAll_mk1 (shut_bool Try.underlying4 _), (trodAll_cons_mk (Below.trod laidOut (by kernel_rfl) (of_decide_eq_true (by kernel_rfl)) k0 hg lt0) (trodAll_cons_mk (Below.trod laidOut (by kernel_rfl) (of_decide_eq_true (by kernel_rfl)) k1 hg lt1) (trodAll_cons_mk (shut_int Try.underlying5 w2) trodAll_mk0))), rfl, hg.frame _, fun h => by cases h⟩

theorem over : Rows.meterWholeRow.holds Try.pinned (OpenSpec.ofChange Rows.meterWholeSpec) :=
  OpenClaim.holds_of_wide 10 Try.f10 rfl rfl rfl rfl rfl rfl rfl ⟨rfl, rfl, rfl, rfl, rfl⟩ rfl rfl rfl rfl rfl (by kernel_rfl) Try.func10 (by kernel_rfl)
    (of_decide_eq_true (by kernel_rfl)) (by unfold Func.isWrapper; first | (rw [if_pos (by decide +kernel)]; kernel_rfl) | (rw [if_neg (by decide +kernel)]; exact ⟨rfl, rfl⟩))
    (fun os started H enc _ => lifted os started H enc)

theorem proved : Rows.MeterWholeSaid :=
  over
#print axioms proved
end Go.Proofs.Ytecbbdbeihiioaa.meterWhole
