/- RealKinds: for every input the law returns true, and its arguments read afterwards as they read before. Condition: math/bits.deBruijn64tab holds what its own initialiser lays (the card ties it). -/
import Derived.Test.YtbpldplbkmabmaaDoorRows
import Derived.Test.YtbpldplbkmabmaaDoorCards
import Derived.Test.YtbpldplbkmabmaaDoorTie
import Derived.WalkKit
import Derived.ProofKit
import Derived.OpenShut
import Derived.Lib.SmallJoins
import Derived.LaidMore
import Derived.Lib.LaidTab
import Derived.Stop.Joined
import Derived.SevenTiedAt
import Derived.Below
import Derived.ChangeOld
import Derived.Test.YtbpldplbkmabmaaDoorRlJ
namespace Go.Proofs.YtbpldplbkmabmaaDoor.realKinds
open Go.ChangeShapes Go.WideShapes Go.ChangeAt Go.RowKit Go.Joins
set_option linter.unusedVariables false

theorem own : ownKnob Tryd.prog.godebug = none := by kernel_rfl

def laid1 : List (String × DataW Unit) := [("math/bits.deBruijn64tab", Rows.laid_math_bits_deBruijn64tab)]

theorem gTab : Tryd.prog.globalNamed "math/bits.deBruijn64tab" = some 1 := by kernel_rfl
theorem tTab : (Tryd.prog.globals[1]?).map (·.type) = some 115 := by kernel_rfl
theorem cellsE : Tryd.prog.cellsOf 5 = 1 := by kernel_rfl
theorem cellsT : Tryd.prog.cellsOf 115 = 64 := by kernel_rfl

theorem door_met (os : Os) (args : Array Value) : laidMetH Tryd.prog laid1 ((World.doorLaid Tryd.prog 400 os).forCall (fun _ _ => 0) ⟨#[], args, []⟩).memory :=
  laidMetH_of_parts3 (fuel := 8) (laidMet_of_run' 8 (by kernel_rfl) (by kernel_rfl)) (by kernel_rfl) (by kernel_rfl)

theorem of_laid {W : World} (h : laidMetH Tryd.prog laid1 W) : Tab W := by
  rw [MakeChecks.laidMetH_plain _ _ _ (by kernel_rfl)] at h
  have hT := Lib.tabIs_of_head (k := .u8) (zs := Lib.deBruijn64tab.map fun z : Nat => (z : Int)) gTab tTab Tryd.underlying115 Tryd.underlying5 cellsE cellsT h
  intro j hj
  have hc := hT.cell gTab j (by simpa using hj)
  rw [hc]
  congr 2
  rw [List.getD_eq_getElem?_getD, List.getD_eq_getElem?_getD, List.getElem?_map]
  rw [List.getElem?_eq_getElem hj]
  rfl

theorem exact_both (b : Nat) (hb : b < 18446744073709551616) : ∃ (s : Bool) (o : Nat) (e : Int) (f : Nat), (∀ v, Tab v → Calls Tryd.prog 30 #[.float .f64 b] v (ExactRes v s o e f)) ∧ (∀ v, Calls Tryd.prog 31 #[.float .f64 b] v (ExactSame v s o e f)) ∧ f ≤ 5 := by
  by_cases h1 : 9218868437227405312 ≤ rg b
  · refine ⟨false, 0, 0, finE (rg b), fun v _ => exact_bad b v hb h1, fun v => docexact_bad b v h1, ?_⟩
    unfold finE
    repeat' split
    all_goals omega
  · by_cases h0 : rg b = 0
    · exact ⟨sgn b, 0, 0, 0, fun v _ => exact_zero b v hb h0, fun v => docexact_zero b v h0, by decide⟩
    · obtain ⟨o, t, ho, hv, -, -⟩ := odd_rung (show 0 < rg b by omega) (by omega)
      exact ⟨sgn b, o, (t : Int) - 1074, 0, fun v h => exact_some b o t v hb (by omega) (by omega) ho hv h, fun v => docexact_some b o t v (by omega) (by omega) ho hv, by decide⟩

set_option maxHeartbeats 2000000 in
theorem walk (x : Int) (hx : (Lit.int .u64 x).wf = true) (w : World) (hT : Tab w) :
    Calls Tryd.prog 8 #[.int .u64 x] w fun e w' => e = .returned (.bool true) ∧ Below w.heap.size w w' := by
  obtain ⟨b, rfl, hb⟩ := u64_nat hx
  have HT := Lib.hid hT
  obtain ⟨s, o, e, f, k1, k2, hf⟩ := exact_both b hb
  have K1 := Lib.hid k1; have K2 := Lib.hid k2
  have Ko := Lib.hid (fun v => of3_any b v)
  have Ka := Lib.hid (fun v h => awake3 v h)
  have Kk := Lib.hid (fun v => kind_any b v hb)
  have Kr := Lib.hid (fun v => kind_ref b v)
  have Km := Lib.hid (fun v => minus_real b v hb)
  have Kn := Lib.hid (fun v => minus_ref b v)
  generalize sgn b = sg at *
  generalize kindN (rg b) = k at *
  clear k1 k2 hT hx
  go_enter Tryd.func8, Tryd.ntmps8
  go_wp2_with fail
  with_reducible refine (Ko.out _).mono ?_
  rintro e1 w' ⟨rfl, rfl⟩
  go_wp2_with fail
  with_reducible refine (K1.out _ HT.out).mono ?_
  rintro e1 w1 ⟨rfl, n1, rfl⟩
  go_wp2_with fail
  with_reducible refine (K2.out _).mono ?_
  rintro e1 w2 ⟨rfl, rfl⟩
  go_wp2_with fail
  with_reducible refine (Ka.out _ (HT.out.drewN n1)).mono ?_
  rintro e1 w3 ⟨rfl, hb3⟩
  have Hb3 := Lib.hid ((below_drewN (Below.refl w.heap.size w) n1).trans hb3)
  clear hb3
  go_wp2_with (first | (go_at_call 33; (with_reducible refine (Kk.out _).mono ?_); rintro e1 w' ⟨rfl, rfl⟩) | (go_at_call 34; (with_reducible refine (Kr.out _).mono ?_); rintro e1 w' ⟨rfl, rfl⟩) | (go_at_call 35; (with_reducible refine (Km.out _).mono ?_); rintro e1 w' ⟨rfl, rfl⟩) | (go_at_call 36; (with_reducible refine (Kn.out _).mono ?_); rintro e1 w' ⟨rfl, rfl⟩))
  go_ret
  exact ⟨rfl, Hb3.out⟩

set_option maxRecDepth 100000 in
theorem lifted (os : Os) (started : os.Started) (H : Type) (enc : TypeId × Value → H) :
    ReturnsInHanded {} Tryd.checked os 8 .any (fun w args => (Rows.realKindsSpec.pre enc Tryd.prog Tryd.f8 [] false w args ∧ laidMetH Tryd.prog laid1 w) ∧ sizedMet enc Tryd.prog Tryd.f8 (OpenSpec.ofChange Rows.realKindsSpec) false w args)
      (Rows.realKindsSpec.post enc Tryd.prog Tryd.f8 false true false false) := by
  refine returnsInHanded_of_change_and (C := Tryd.checked) (X := fun w _ => laidMetH Tryd.prog laid1 w) (fun _ _ _ hh h => h.of_heap hh) own started (by kernel_rfl) Tryd.func8
    (ChangeSpec.witness_shaped (enc := enc) (C := Tryd.checked) (os := os) (X := fun w _ => laidMetH Tryd.prog laid1 w) false (World.doorLaid Tryd.prog 400 os) #[.int .u64 0] 8 rfl (World.shaped_of_RefB (by kernel_rfl) (by kernel_rfl)) (by kernel_rfl) (by kernel_rfl) (by kernel_rfl) (door_met os _)) ?_
  intro W base args ds gs before hval0 hW _ _ hL _
  have hval : ∀ (j : Nat) t v, Tryd.f8.params[j]? = some t → args[j]? = some v → Value.okWide Tryd.prog W .any base t v := hval0
  have hW' := hW
  obtain ⟨p, q, hA0, hV, rfl, hfz, hnd⟩ := hW
  have hA : DataW.TrodAll enc Tryd.prog W 0 (fun _ => true) true Tryd.f8.params.toList args.toList ds p := hA0
  rw [Tryd.params8] at hA hval
  obtain ⟨v0, vs0, d0, ds0, p0, q0, hargs, rfl, rfl, h0, r0⟩ := trodAll_cons hA
  obtain ⟨rfl, rfl, rfl⟩ := trodAll_nil r0
  obtain rfl : args = #[v0] := by cases args; simp_all
  obtain ⟨rfl, rfl⟩ := trodVars_none hV
  obtain ⟨a0, rfl, rfl, rfl, w0⟩ := open_int Tryd.underlying22 (hval 0 22 v0 rfl rfl) h0
  have hTab := of_laid hL
  clear hA0 hval0
  refine (walk a0 w0 W hTab).mono fun e W' ⟨he, hg⟩ => ?_
  subst he
  exact ⟨_, rfl, _, _, _, [], _, [], hW', trodAll_mk1 (shut_bool Tryd.underlying4 _), (trodAll_cons_mk (shut_int Tryd.underlying22 w0) trodAll_mk0), rfl, hg.frame _, fun h => by cases h⟩

theorem over : Rows.realKindsRow.holds Tryd.pinned (OpenSpec.ofChange Rows.realKindsSpec) :=
  OpenClaim.holds_of_wide 8 Tryd.f8 rfl rfl rfl rfl rfl rfl rfl ⟨rfl, rfl, rfl, rfl, rfl⟩ rfl rfl rfl rfl rfl (by kernel_rfl) Tryd.func8 (by kernel_rfl)
    (of_decide_eq_true (by kernel_rfl)) (by unfold Func.isWrapper; first | (rw [if_pos (by decide +kernel)]; kernel_rfl) | (rw [if_neg (by decide +kernel)]; exact ⟨rfl, rfl⟩))
    (fun os started H enc _ => lifted os started H enc)

theorem proved : Rows.RealKindsCardSaid :=
  Claim7.holds_tied_plain_at .later [] [.data] true (true, "85d269bd228afe2ef34ed2e288f7f1f4278f0a5f8bd47cb8147d3cef28d2a950") false
    over (fun _ h => by cases h) (by kernel_rfl) (fun _ h => by cases h) realKinds_row_tie rfl ⟨rfl, rfl⟩ (by kernel_rfl) rfl
    (fun f fn hf hfn => by
      obtain rfl : f = 8 := Option.some.inj ((show Tryd.prog.funcNamed "spigot/spigotlaw03.RealKinds" = some 8 by kernel_rfl).symm.trans hf) |>.symm
      obtain rfl : fn = Tryd.f8 := (Option.some.inj (Tryd.func8.symm.trans hfn)).symm
      exact ⟨by kernel_rfl, fun j t ht => by
        rw [Tryd.params8] at ht
        have hm : t ∈ [22] := by simpa using Array.mem_of_getElem? ht
        have hall : ([22].all fun u => !Tryd.prog.wantsStandIn u) = true := by kernel_rfl
        exact (show Tryd.prog.wantsStandIn t = false by simpa using List.all_eq_true.1 hall t hm)⟩)
    (by kernel_rfl)
#print axioms proved
end Go.Proofs.YtbpldplbkmabmaaDoor.realKinds
