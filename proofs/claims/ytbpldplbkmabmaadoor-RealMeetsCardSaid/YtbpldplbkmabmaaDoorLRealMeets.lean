/- RealMeets: for every input the law returns true, and its arguments read afterwards as they read before. Condition: math/bits.deBruijn64tab holds what its own initialiser lays (the card ties it). -/
import Derived.Test.YtbpldplbkmabmaaDoorRows
import Derived.Test.YtbpldplbkmabmaaDoorCards
import Derived.Test.YtbpldplbkmabmaaDoorTie
import Derived.WalkKit
import Derived.ProofKit
import Derived.OpenShut
import Derived.Lib.SmallJoins
import Derived.LaidMore
import Derived.Lib.LaidTab
import Derived.Stop.Joined
import Derived.SevenTiedAt
import Derived.Below
import Derived.ChangeOld
import Derived.Test.YtbpldplbkmabmaaDoorFlI
import Derived.Test.YtbpldplbkmabmaaDoorRlJ
import Derived.Test.YtbpldplbkmabmaaDoorRlI
namespace Go.Proofs.YtbpldplbkmabmaaDoor.realMeets
open Go.ChangeShapes Go.WideShapes Go.ChangeAt Go.RowKit Go.Joins
set_option linter.unusedVariables false

theorem own : ownKnob Tryd.prog.godebug = none := by kernel_rfl

def laid1 : List (String × DataW Unit) := [("math/bits.deBruijn64tab", Rows.laid_math_bits_deBruijn64tab)]

theorem gTab : Tryd.prog.globalNamed "math/bits.deBruijn64tab" = some 1 := by kernel_rfl
theorem tTab : (Tryd.prog.globals[1]?).map (·.type) = some 115 := by kernel_rfl
theorem cellsE : Tryd.prog.cellsOf 5 = 1 := by kernel_rfl
theorem cellsT : Tryd.prog.cellsOf 115 = 64 := by kernel_rfl

theorem door_met (os : Os) (args : Array Value) : laidMetH Tryd.prog laid1 ((World.doorLaid Tryd.prog 400 os).forCall (fun _ _ => 0) ⟨#[], args, []⟩).memory :=
  laidMetH_of_parts3 (fuel := 8) (laidMet_of_run' 8 (by kernel_rfl) (by kernel_rfl)) (by kernel_rfl) (by kernel_rfl)

theorem of_laid {W : World} (h : laidMetH Tryd.prog laid1 W) : Tab W := by
  rw [MakeChecks.laidMetH_plain _ _ _ (by kernel_rfl)] at h
  have hT := Lib.tabIs_of_head (k := .u8) (zs := Lib.deBruijn64tab.map fun z : Nat => (z : Int)) gTab tTab Tryd.underlying115 Tryd.underlying5 cellsE cellsT h
  intro j hj
  have hc := hT.cell gTab j (by simpa using hj)
  rw [hc]
  congr 2
  rw [List.getD_eq_getElem?_getD, List.getD_eq_getElem?_getD, List.getElem?_map]
  rw [List.getElem?_eq_getElem hj]
  rfl

theorem and50 (t : Int) : bits .and .i64 t 1125899906842623 = t % 1125899906842624 := by
  have h127 : (BitVec.ofInt 64 1125899906842623).toNat = 2 ^ 50 - 1 := by decide
  have key : (BitVec.ofInt 64 t &&& BitVec.ofInt 64 1125899906842623).toNat = (t % ((2 ^ 64 : Nat) : Int)).toNat % 2 ^ 50 := by
    rw [BitVec.toNat_and, BitVec.toNat_ofInt, h127, Nat.and_two_pow_sub_one_eq_mod]
  show IntKind.i64.wrap ((BitVec.ofInt 64 t &&& BitVec.ofInt 64 1125899906842623).toNat : Nat) = t % 1125899906842624
  rw [key, IntKind.wrap_i64]
  omega

set_option maxHeartbeats 4000000 in
theorem core_no (t0 t hz : Int) (w : World) (hT : Tab w) (hand : bits .and .i64 t0 1125899906842623 = t)
    (k1 : ∀ v, Calls Tryd.prog 39 #[.int .i64 t, .int .i64 hz] v (FE v 0 1))
    (hb2 : hz < 1 ∨ 1000000000 < hz) :
    Calls Tryd.prog 14 #[.int .i64 t0, .int .i64 hz] w fun e w' => e = .returned (.bool true) ∧ Below w.heap.size w w' := by
  have HT := Lib.hid hT
  have Ka := Lib.hid (fun v h => awake3 v h)
  unfold FE at k1
  have K1 := Lib.hid k1
  have K3 := Lib.hid (fun v => same_any 0 0 v (by decide) (by decide))
  clear k1 hT
  by_cases c1 : hz < 1
  all_goals
    first | (have c2 : 1000000000 < hz := by omega) | skip
    clear hb2
    go_enter Tryd.func14, Tryd.ntmps14
    go_wp2_with fail
    with_reducible refine (Ka.out _ HT.out).mono ?_
    rintro e1 w1 ⟨rfl, hb1⟩
    have Hb1 := Lib.hid hb1
    clear hb1
    go_wp2_with fail
    with_reducible refine (K1.out _).mono ?_
    rintro e1 w2 ⟨rfl, hb2⟩
    have Hb2 := Lib.hid (Hb1.out.trans (hb2.mono Hb1.out.size))
    clear hb2
    go_wp2_with (go_at_call 44; (with_reducible refine (K3.out _).mono ?_); rintro e1 w' ⟨rfl, rfl⟩)
    go_ret
    exact ⟨rfl, Hb2.out⟩

set_option maxHeartbeats 4000000 in
theorem core_yes (t0 t hz : Int) (x : Nat) (w : World) (hT : Tab w) (hand : bits .and .i64 t0 1125899906842623 = t) (ht0 : 0 ≤ t) (ht1 : t ≤ 1125899906842623)
    (k1 : ∀ v, Calls Tryd.prog 39 #[.int .i64 t, .int .i64 hz] v (FE v x 0))
    (k2 : ∀ v, Tab v → Calls Tryd.prog 37 #[.float .f64 x, .int .i64 hz, .int .i64 2] v (TwoRes v t 0))
    (h1 : 1 ≤ hz) (h2 : hz ≤ 1000000000) :
    Calls Tryd.prog 14 #[.int .i64 t0, .int .i64 hz] w fun e w' => e = .returned (.bool true) ∧ Below w.heap.size w w' := by
  have HT := Lib.hid hT
  have Ka := Lib.hid (fun v h => awake3 v h)
  unfold FE at k1
  unfold TwoRes at k2
  have K1 := Lib.hid k1
  have K2 := Lib.hid k2
  have kf := fun v => rform_any t v
  rw [show tickB t = true from tickB_mk ht0 (by omega)] at kf
  have Kf := Lib.hid kf
  clear k1 k2 kf hT
  go_enter Tryd.func14, Tryd.ntmps14
  go_wp2_with fail
  with_reducible refine (Ka.out _ HT.out).mono ?_
  rintro e1 w1 ⟨rfl, hb1⟩
  have Hb1 := Lib.hid hb1
  clear hb1
  go_wp2_with fail
  with_reducible refine (K1.out _).mono ?_
  rintro e1 w2 ⟨rfl, hb2⟩
  have Hb2 := Lib.hid (Hb1.out.trans (hb2.mono Hb1.out.size))
  clear hb2
  go_wp2_with fail
  with_reducible refine (K2.out _ (HT.out.later Hb2.out)).mono ?_
  rintro e1 w3 ⟨rfl, hb3⟩
  have Hb3 := Lib.hid (Hb2.out.trans (hb3.mono Hb2.out.size))
  clear hb3
  go_wp2_with (go_at_call 45; (with_reducible refine (Kf.out _).mono ?_); rintro e1 w' ⟨rfl, rfl⟩)
  go_ret
  exact ⟨rfl, Hb3.out⟩

theorem tick_zero (hz : Nat) : tickN 0 hz 2 = 0 := by
  have hU := pw_pos 1074
  have h : V 0 * hz = 0 := by rw [show V 0 = 0 from by decide, Nat.zero_mul]
  unfold tickN
  rw [h]
  unfold wholeN upN
  rw [Nat.zero_div, Nat.zero_mod, decide_eq_false (show ¬ pw 1074 < 2 * 0 by omega), decide_eq_false (show ¬ 2 * 0 = pw 1074 by omega)]
  rfl

theorem walk (t0 hz : Int) (ht : (Lit.int .i64 t0).wf = true) (hh : (Lit.int .i64 hz).wf = true) (w : World) (hT : Tab w) :
    Calls Tryd.prog 14 #[.int .i64 t0, .int .i64 hz] w fun e w' => e = .returned (.bool true) ∧ Below w.heap.size w w' := by
  have hand := and50 t0
  have h0 : 0 ≤ t0 % 1125899906842624 := by omega
  have h1 : t0 % 1125899906842624 ≤ 1125899906842623 := by omega
  generalize t0 % 1125899906842624 = t at *
  obtain ⟨x, f, hs⟩ := secw_exists t hz
  have k1 := fun v => seconds_w hs v
  have hx := (secw_lt hs).1
  by_cases hb : hz < 1 ∨ 1000000000 < hz
  · have hno : secB t hz = false := by
      cases hB : secB t hz with
      | false => rfl
      | true => have := secB_yes hB; omega
    rcases hs with ⟨-, rfl, rfl⟩ | ⟨h, -⟩ | ⟨h, -⟩
    · exact core_no t0 t hz w hT hand k1 hb
    · rw [hno] at h; cases h
    · rw [hno] at h; cases h
  · have hA : argsT hz 2 = true := by
      unfold argsT
      exact decide_eq_true ⟨by omega, by omega, by decide, by decide⟩
    have k2 := fun v (h : Tab v) => ticks_any x hz 2 v (by omega) h
    unfold TkRes at k2
    have hr : rg x = x := rg_pos (by omega)
    have hsg : ¬ (sgn x = true ∧ 0 < rg x) := by
      rw [sgn_pos (by omega)]; simp
    have key : tickN x hz.toNat 2 = t.toNat ∧ f = 0 := by
      rcases hs with ⟨h, -⟩ | ⟨-, rfl, rfl, rfl⟩ | ⟨-, h3, rfl, h4⟩
      · have := secB_no h
        omega
      · exact ⟨tick_zero _, rfl⟩
      · rw [show hz.natAbs = hz.toNat by omega, show t.natAbs = t.toNat by omega] at h4
        exact ⟨meets h4 (by omega), rfl⟩
    obtain ⟨e1, rfl⟩ := key
    obtain ⟨e2, e3⟩ := tk_some (b := x) hA (by omega) hsg (by rw [hr, show (2 : Int).toNat = 2 from rfl, e1]; omega)
    rw [hr, show (2 : Int).toNat = 2 from rfl, e1, show ((t.toNat : Nat) : Int) = t by omega] at e3
    simp only [e2, e3] at k2
    exact core_yes t0 t hz x w hT hand h0 h1 k1 k2 (by omega) (by omega)

set_option maxRecDepth 100000 in
theorem lifted (os : Os) (started : os.Started) (H : Type) (enc : TypeId × Value → H) :
    ReturnsInHanded {} Tryd.checked os 14 .any (fun w args => (Rows.realMeetsSpec.pre enc Tryd.prog Tryd.f14 [] false w args ∧ laidMetH Tryd.prog laid1 w) ∧ sizedMet enc Tryd.prog Tryd.f14 (OpenSpec.ofChange Rows.realMeetsSpec) false w args)
      (Rows.realMeetsSpec.post enc Tryd.prog Tryd.f14 false true false false) := by
  refine returnsInHanded_of_change_and (C := Tryd.checked) (X := fun w _ => laidMetH Tryd.prog laid1 w) (fun _ _ _ hh h => h.of_heap hh) own started (by kernel_rfl) Tryd.func14
    (ChangeSpec.witness_shaped (enc := enc) (C := Tryd.checked) (os := os) (X := fun w _ => laidMetH Tryd.prog laid1 w) false (World.doorLaid Tryd.prog 400 os) #[.int .i64 0, .int .i64 0] 8 rfl (World.shaped_of_RefB (by kernel_rfl) (by kernel_rfl)) (by kernel_rfl) (by kernel_rfl) (by kernel_rfl) (door_met os _)) ?_
  intro W base args ds gs before hval0 hW _ _ hL _
  have hval : ∀ (j : Nat) t v, Tryd.f14.params[j]? = some t → args[j]? = some v → Value.okWide Tryd.prog W .any base t v := hval0
  have hW' := hW
  obtain ⟨p, q, hA0, hV, rfl, hfz, hnd⟩ := hW
  have hA : DataW.TrodAll enc Tryd.prog W 0 (fun _ => true) true Tryd.f14.params.toList args.toList ds p := hA0
  rw [Tryd.params14] at hA hval
  obtain ⟨v0, vs0, d0, ds0, p0, q0, hargs, rfl, rfl, h0, r0⟩ := trodAll_cons hA
  obtain ⟨v1, vs1, d1, ds1, p1, q1, rfl, rfl, rfl, h1, r1⟩ := trodAll_cons r0
  obtain ⟨rfl, rfl, rfl⟩ := trodAll_nil r1
  obtain rfl : args = #[v0, v1] := by cases args; simp_all
  obtain ⟨rfl, rfl⟩ := trodVars_none hV
  obtain ⟨a0, rfl, rfl, rfl, w0⟩ := open_int Tryd.underlying2 (hval 0 2 v0 rfl rfl) h0
  obtain ⟨a1, rfl, rfl, rfl, w1⟩ := open_int Tryd.underlying2 (hval 1 2 v1 rfl rfl) h1
  have hTab := of_laid hL
  clear hA0 hval0
  refine (walk a0 a1 w0 w1 W hTab).mono fun e W' ⟨he, hg⟩ => ?_
  subst he
  exact ⟨_, rfl, _, _, _, [], _, [], hW', trodAll_mk1 (shut_bool Tryd.underlying4 _), (trodAll_cons_mk (shut_int Tryd.underlying2 w0) (trodAll_cons_mk (shut_int Tryd.underlying2 w1) trodAll_mk0)), rfl, hg.frame _, fun h => by cases h⟩

theorem over : Rows.realMeetsRow.holds Tryd.pinned (OpenSpec.ofChange Rows.realMeetsSpec) :=
  OpenClaim.holds_of_wide 14 Tryd.f14 rfl rfl rfl rfl rfl rfl rfl ⟨rfl, rfl, rfl, rfl, rfl⟩ rfl rfl rfl rfl rfl (by kernel_rfl) Tryd.func14 (by kernel_rfl)
    (of_decide_eq_true (by kernel_rfl)) (by unfold Func.isWrapper; first | (rw [if_pos (by decide +kernel)]; kernel_rfl) | (rw [if_neg (by decide +kernel)]; exact ⟨rfl, rfl⟩))
    (fun os started H enc _ => lifted os started H enc)

theorem proved : Rows.RealMeetsCardSaid :=
  Claim7.holds_tied_plain_at .later [] [.data] true (true, "85d269bd228afe2ef34ed2e288f7f1f4278f0a5f8bd47cb8147d3cef28d2a950") false
    over (fun _ h => by cases h) (by kernel_rfl) (fun _ h => by cases h) realMeets_row_tie rfl ⟨rfl, rfl⟩ (by kernel_rfl) rfl
    (fun f fn hf hfn => by
      obtain rfl : f = 14 := Option.some.inj ((show Tryd.prog.funcNamed "spigot/spigotlaw03.RealMeets" = some 14 by kernel_rfl).symm.trans hf) |>.symm
      obtain rfl : fn = Tryd.f14 := (Option.some.inj (Tryd.func14.symm.trans hfn)).symm
      exact ⟨by kernel_rfl, fun j t ht => by
        rw [Tryd.params14] at ht
        have hm : t ∈ [2, 2] := by simpa using Array.mem_of_getElem? ht
        have hall : ([2, 2].all fun u => !Tryd.prog.wantsStandIn u) = true := by kernel_rfl
        exact (show Tryd.prog.wantsStandIn t = false by simpa using List.all_eq_true.1 hall t hm)⟩)
    (by kernel_rfl)
#print axioms proved
end Go.Proofs.YtbpldplbkmabmaaDoor.realMeets
