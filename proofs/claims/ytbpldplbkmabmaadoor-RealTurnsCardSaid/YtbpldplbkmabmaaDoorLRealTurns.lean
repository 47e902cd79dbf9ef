/- RealTurns: for every input the law returns true, and its arguments read afterwards as they read before. Condition: math/bits.deBruijn64tab holds what its own initialiser lays (the card ties it). -/
import Derived.Test.YtbpldplbkmabmaaDoorRows
import Derived.Test.YtbpldplbkmabmaaDoorCards
import Derived.Test.YtbpldplbkmabmaaDoorTie
import Derived.WalkKit
import Derived.ProofKit
import Derived.OpenShut
import Derived.Lib.SmallJoins
import Derived.LaidMore
import Derived.Lib.LaidTab
import Derived.Stop.Joined
import Derived.SevenTiedAt
import Derived.Below
import Derived.ChangeOld
import Derived.Test.YtbpldplbkmabmaaDoorRlS
namespace Go.Proofs.YtbpldplbkmabmaaDoor.realTurns
open Go.ChangeShapes Go.WideShapes Go.ChangeAt Go.RowKit Go.Joins
set_option linter.unusedVariables false

theorem own : ownKnob Tryd.prog.godebug = none := by kernel_rfl

def laid1 : List (String × DataW Unit) := [("math/bits.deBruijn64tab", Rows.laid_math_bits_deBruijn64tab)]

theorem gTab : Tryd.prog.globalNamed "math/bits.deBruijn64tab" = some 1 := by kernel_rfl
theorem tTab : (Tryd.prog.globals[1]?).map (·.type) = some 115 := by kernel_rfl
theorem cellsE : Tryd.prog.cellsOf 5 = 1 := by kernel_rfl
theorem cellsT : Tryd.prog.cellsOf 115 = 64 := by kernel_rfl

theorem door_met (os : Os) (args : Array Value) : laidMetH Tryd.prog laid1 ((World.doorLaid Tryd.prog 400 os).forCall (fun _ _ => 0) ⟨#[], args, []⟩).memory :=
  laidMetH_of_parts3 (fuel := 8) (laidMet_of_run' 8 (by kernel_rfl) (by kernel_rfl)) (by kernel_rfl) (by kernel_rfl)

theorem of_laid {W : World} (h : laidMetH Tryd.prog laid1 W) : Tab W := by
  rw [MakeChecks.laidMetH_plain _ _ _ (by kernel_rfl)] at h
  have hT := Lib.tabIs_of_head (k := .u8) (zs := Lib.deBruijn64tab.map fun z : Nat => (z : Int)) gTab tTab Tryd.underlying115 Tryd.underlying5 cellsE cellsT h
  intro j hj
  have hc := hT.cell gTab j (by simpa using hj)
  rw [hc]
  congr 2
  rw [List.getD_eq_getElem?_getD, List.getD_eq_getElem?_getD, List.getElem?_map]
  rw [List.getElem?_eq_getElem hj]
  rfl

theorem walk (a b : Int) (ha : (Lit.int .i64 a).wf = true) (hb : (Lit.int .i64 b).wf = true) (w : World) (hT : Tab w) :
    Calls Tryd.prog 13 #[.int .i64 a, .int .i64 b] w fun e w' => e = .returned (.bool true) ∧ Below w.heap.size w w' := by
  have ha' := bounds_i64 ha
  have hb' := bounds_i64 hb
  obtain ⟨A, hA⟩ : ∃ A, a / 4 = A := ⟨_, rfl⟩
  obtain ⟨B, hB⟩ : ∃ B, b / 4 = B := ⟨_, rfl⟩
  have hA1 : -2305843009213693952 ≤ A ∧ A ≤ 2305843009213693951 := by omega
  have hB1 : -2305843009213693952 ≤ B ∧ B ≤ 2305843009213693951 := by omega
  by_cases hB0 : B = 0
  · subst hB0
    exact turns_zero a b A w hT hA hB (fun v => ratio_w (Or.inl ⟨rfl, rfl, rfl⟩) (by omega) (by omega) (by omega) (by omega) v)
  · obtain ⟨x, f, hx⟩ := ratw_exists A B (by omega) (by omega) (by omega) (by omega)
    obtain ⟨u, g, hu⟩ := ratw_exists (A + 1) B (by omega) (by omega) (by omega) (by omega)
    obtain ⟨rfl, h2, h3, h4⟩ := rat_turn hB0 hx
    obtain ⟨rfl, -⟩ := rat_turn hB0 hu
    have hxl := ratw_lt hx
    have hul := ratw_lt hu
    have okx : okW x = true := by
      unfold okW
      rcases h4 with ⟨-, rfl, -⟩ | ⟨-, s, r, hr, rfl, -⟩
      · decide
      · rw [rg_mkW (by omega)]; exact decide_eq_true (by omega)
    have oku : okW u = true := by
      unfold okW
      rcases (rat_turn hB0 hu).2.2.2 with ⟨-, rfl, -⟩ | ⟨-, s, r, hr, rfl, -⟩
      · decide
      · rw [rg_mkW (by omega)]; exact decide_eq_true (by omega)
    have key : (0 < B ∧ keyW x ≤ keyW u) ∨ (B < 0 ∧ keyW u ≤ keyW x) := by
      by_cases hp : 0 < B
      · exact Or.inl ⟨hp, rat_mono hp (by omega) hx hu⟩
      · exact Or.inr ⟨by omega, rat_mono (show 0 < -B by omega) (show -(A + 1) ≤ -A by omega) (rat_turn hB0 hu).2.1 h2⟩
    have hq : (0 < B ∧ ((FloatKind.f64.format.order u x == some .gt) = true ∨ (FloatKind.f64.format.order u x == some .eq) = true)) ∨ (B < 0 ∧ ((FloatKind.f64.format.order u x == some .lt) = true ∨ (FloatKind.f64.format.order u x == some .eq) = true)) := by
      rw [ord_gt hul.1 hxl.1, ord_eq hul.1 hxl.1, ord_lt hul.1 hxl.1, okx, oku]
      simp only [Bool.true_and, decide_eq_true_eq]
      omega
    have hz : ∃ z, z < 18446744073709551616 ∧ RatW (-A) B z 0 ∧ (FloatKind.f64.format.order z (mkW (!sgn x) (rg x)) != some .eq) = false ∧ ((A ≠ 0) ∨ (A = 0 ∧ sgn x = false ∧ sgn z = false)) := by
      rcases h4 with ⟨h5, rfl, h6⟩ | ⟨h5, s, r, hr, rfl, h6⟩
      · exact ⟨0, by decide, h6, by decide, Or.inr ⟨h5, by decide, by decide⟩⟩
      · refine ⟨_, mkW_lt (by omega), h6, ?_, Or.inl h5⟩
        rw [sgn_mkW (by omega), rg_mkW (by omega), bne, ford_self _ (mkW_lt (by omega)), rg_mkW (by omega), decide_eq_true (show r ≤ 9218868437227405312 by omega)]
        rfl
    obtain ⟨z, hz0, hz1, hz2, hz3⟩ := hz
    exact turns_some a b A B x z u _ w hT hA hB (by rw [IntKind.wrap_i64]; omega) (by rw [IntKind.wrap_i64]; omega) (by rw [IntKind.wrap_i64]; omega) (by rw [IntKind.wrap_i64]; omega) (by rw [IntKind.wrap_i64]; omega) hB0 hxl.1 hz0
      (fun v => ratio_w hx (by omega) (by omega) (by omega) (by omega) v) (fun v => ratio_w h2 (by omega) (by omega) (by omega) (by omega) v) (fun v => ratio_w hz1 (by omega) (by omega) (by omega) (by omega) v)
      (fun v => ratio_w h3 (by omega) (by omega) (by omega) (by omega) v) (fun v => ratio_w (rat_self hB0) (by omega) (by omega) (by omega) (by omega) v) (fun v => ratio_w hu (by omega) (by omega) (by omega) (by omega) v)
      (neg_unary_any hxl.1) hz2 hz3 _ _ _ rfl rfl rfl hq

set_option maxRecDepth 100000 in
theorem lifted (os : Os) (started : os.Started) (H : Type) (enc : TypeId × Value → H) :
    ReturnsInHanded {} Tryd.checked os 13 .any (fun w args => (Rows.realTurnsSpec.pre enc Tryd.prog Tryd.f13 [] false w args ∧ laidMetH Tryd.prog laid1 w) ∧ sizedMet enc Tryd.prog Tryd.f13 (OpenSpec.ofChange Rows.realTurnsSpec) false w args)
      (Rows.realTurnsSpec.post enc Tryd.prog Tryd.f13 false true false false) := by
  refine returnsInHanded_of_change_and (C := Tryd.checked) (X := fun w _ => laidMetH Tryd.prog laid1 w) (fun _ _ _ hh h => h.of_heap hh) own started (by kernel_rfl) Tryd.func13
    (ChangeSpec.witness_shaped (enc := enc) (C := Tryd.checked) (os := os) (X := fun w _ => laidMetH Tryd.prog laid1 w) false (World.doorLaid Tryd.prog 400 os) #[.int .i64 0, .int .i64 0] 8 rfl (World.shaped_of_RefB (by kernel_rfl) (by kernel_rfl)) (by kernel_rfl) (by kernel_rfl) (by kernel_rfl) (door_met os _)) ?_
  intro W base args ds gs before hval0 hW _ _ hL _
  have hval : ∀ (j : Nat) t v, Tryd.f13.params[j]? = some t → args[j]? = some v → Value.okWide Tryd.prog W .any base t v := hval0
  have hW' := hW
  obtain ⟨p, q, hA0, hV, rfl, hfz, hnd⟩ := hW
  have hA : DataW.TrodAll enc Tryd.prog W 0 (fun _ => true) true Tryd.f13.params.toList args.toList ds p := hA0
  rw [Tryd.params13] at hA hval
  obtain ⟨v0, vs0, d0, ds0, p0, q0, hargs, rfl, rfl, h0, r0⟩ := trodAll_cons hA
  obtain ⟨v1, vs1, d1, ds1, p1, q1, rfl, rfl, rfl, h1, r1⟩ := trodAll_cons r0
  obtain ⟨rfl, rfl, rfl⟩ := trodAll_nil r1
  obtain rfl : args = #[v0, v1] := by cases args; simp_all
  obtain ⟨rfl, rfl⟩ := trodVars_none hV
  obtain ⟨a0, rfl, rfl, rfl, w0⟩ := open_int Tryd.underlying2 (hval 0 2 v0 rfl rfl) h0
  obtain ⟨a1, rfl, rfl, rfl, w1⟩ := open_int Tryd.underlying2 (hval 1 2 v1 rfl rfl) h1
  have hTab := of_laid hL
  clear hA0 hval0
  refine (walk a0 a1 w0 w1 W hTab).mono fun e W' ⟨he, hg⟩ => ?_
  subst he
  exact ⟨_, rfl, _, _, _, [], _, [], hW', trodAll_mk1 (shut_bool Tryd.underlying4 _), (trodAll_cons_mk (shut_int Tryd.underlying2 w0) (trodAll_cons_mk (shut_int Tryd.underlying2 w1) trodAll_mk0)), rfl, hg.frame _, fun h => by cases h⟩

theorem over : Rows.realTurnsRow.holds Tryd.pinned (OpenSpec.ofChange Rows.realTurnsSpec) :=
  OpenClaim.holds_of_wide 13 Tryd.f13 rfl rfl rfl rfl rfl rfl rfl ⟨rfl, rfl, rfl, rfl, rfl⟩ rfl rfl rfl rfl rfl (by kernel_rfl) Tryd.func13 (by kernel_rfl)
    (of_decide_eq_true (by kernel_rfl)) (by unfold Func.isWrapper; first | (rw [if_pos (by decide +kernel)]; kernel_rfl) | (rw [if_neg (by decide +kernel)]; exact ⟨rfl, rfl⟩))
    (fun os started H enc _ => lifted os started H enc)

theorem proved : Rows.RealTurnsCardSaid :=
  Claim7.holds_tied_plain_at .later [] [.data] true (true, "85d269bd228afe2ef34ed2e288f7f1f4278f0a5f8bd47cb8147d3cef28d2a950") false
    over (fun _ h => by cases h) (by kernel_rfl) (fun _ h => by cases h) realTurns_row_tie rfl ⟨rfl, rfl⟩ (by kernel_rfl) rfl
    (fun f fn hf hfn => by
      obtain rfl : f = 13 := Option.some.inj ((show Tryd.prog.funcNamed "spigot/spigotlaw03.RealTurns" = some 13 by kernel_rfl).symm.trans hf) |>.symm
      obtain rfl : fn = Tryd.f13 := (Option.some.inj (Tryd.func13.symm.trans hfn)).symm
      exact ⟨by kernel_rfl, fun j t ht => by
        rw [Tryd.params13] at ht
        have hm : t ∈ [2, 2] := by simpa using Array.mem_of_getElem? ht
        have hall : ([2, 2].all fun u => !Tryd.prog.wantsStandIn u) = true := by kernel_rfl
        exact (show Tryd.prog.wantsStandIn t = false by simpa using List.all_eq_true.1 hall t hm)⟩)
    (by kernel_rfl)
#print axioms proved
end Go.Proofs.YtbpldplbkmabmaaDoor.realTurns
