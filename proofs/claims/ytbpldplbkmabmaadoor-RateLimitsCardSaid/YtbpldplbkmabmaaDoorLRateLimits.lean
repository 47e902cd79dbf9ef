/- RateLimits: for every input the law returns true, and its arguments read afterwards as they read before. Condition: math/bits.deBruijn64tab holds what its own initialiser lays (the card ties it). -/
import Derived.Test.YtbpldplbkmabmaaDoorRows
import Derived.Test.YtbpldplbkmabmaaDoorCards
import Derived.Test.YtbpldplbkmabmaaDoorTie
import Derived.WalkKit
import Derived.ProofKit
import Derived.OpenShut
import Derived.Lib.SmallJoins
import Derived.LaidMore
import Derived.Lib.LaidTab
import Derived.Stop.Joined
import Derived.SevenTiedAt
import Derived.Below
import Derived.ChangeOld
import Derived.Test.YtbpldplbkmabmaaDoorRtH
namespace Go.Proofs.YtbpldplbkmabmaaDoor.rateLimits
open Go.ChangeShapes Go.WideShapes Go.ChangeAt Go.RowKit Go.Joins
set_option linter.unusedVariables false

theorem own : ownKnob Tryd.prog.godebug = none := by kernel_rfl

def laid1 : List (String × DataW Unit) := [("math/bits.deBruijn64tab", Rows.laid_math_bits_deBruijn64tab)]

theorem gTab : Tryd.prog.globalNamed "math/bits.deBruijn64tab" = some 1 := by kernel_rfl
theorem tTab : (Tryd.prog.globals[1]?).map (·.type) = some 115 := by kernel_rfl
theorem cellsE : Tryd.prog.cellsOf 5 = 1 := by kernel_rfl
theorem cellsT : Tryd.prog.cellsOf 115 = 64 := by kernel_rfl

theorem door_met (os : Os) (args : Array Value) : laidMetH Tryd.prog laid1 ((World.doorLaid Tryd.prog 400 os).forCall (fun _ _ => 0) ⟨#[], args, []⟩).memory :=
  laidMetH_of_parts3 (fuel := 8) (laidMet_of_run' 8 (by kernel_rfl) (by kernel_rfl)) (by kernel_rfl) (by kernel_rfl)

theorem of_laid {W : World} (h : laidMetH Tryd.prog laid1 W) : Tab W := by
  rw [MakeChecks.laidMetH_plain _ _ _ (by kernel_rfl)] at h
  have hT := Lib.tabIs_of_head (k := .u8) (zs := Lib.deBruijn64tab.map fun z : Nat => (z : Int)) gTab tTab Tryd.underlying115 Tryd.underlying5 cellsE cellsT h
  intro j hj
  have hc := hT.cell gTab j (by simpa using hj)
  rw [hc]
  congr 2
  rw [List.getD_eq_getElem?_getD, List.getD_eq_getElem?_getD, List.getElem?_map]
  rw [List.getElem?_eq_getElem hj]
  rfl

theorem cellsL : Tryd.prog.cellsOf 28 = 2 := by kernel_rfl

theorem walk (T tau hz span : Int) (hT1 : (Lit.int .i64 T).wf = true) (hT2 : (Lit.int .i64 tau).wf = true) (hz1 : (Lit.int .i64 hz).wf = true) (hs : (Lit.int .i64 span).wf = true) (w : World) (hT : Tab w) :
    Calls Tryd.prog 6 #[limV T tau, .int .i64 hz, .int .i64 span] w fun e w' => e = .returned (.bool true) ∧ Below w.heap.size w w' := by
  have kc1 : ∀ v, Calls Tryd.prog 20 #[limV T tau] v (IntRes v (codeI (limB T tau))) := by
    cases h : limB T tau with
    | true => exact fun v => rcheck_yes T tau v h
    | false => exact fun v => rcheck_no T tau v h
  have kc2 := fun v => rcheck4_any T tau v
  -- Within and DocWithin
  have two : ∀ s : Int, ∃ q g, (∀ v, Calls Tryd.prog 23 #[limV T tau, .int .i64 s] v (TwoRes v q g)) ∧ (∀ v, Calls Tryd.prog 26 #[limV T tau, .int .i64 s] v (TwoRes v q g)) := by
    intro s
    cases h : (limB T tau && tickB s) with
    | true =>
      rw [Bool.and_eq_true] at h
      exact ⟨_, _, fun v => within_yes T tau s v h.1 h.2, fun v => docwithin_yes T tau s v h.1 h.2⟩
    | false => exact ⟨_, _, fun v => within_no T tau s v h, fun v => docwithin_no T tau s v h⟩
  obtain ⟨q0, g0, a1, a2⟩ := two 0
  obtain ⟨q, g, b1, b2⟩ := two span
  -- Real and DocReal
  have one : ∃ x f : Nat, x < 18446744073709551616 ∧ (∀ v, Calls Tryd.prog 24 #[limV T tau, .int .i64 hz] v (FE v x f)) ∧ (∀ v, Calls Tryd.prog 25 #[limV T tau, .int .i64 hz] v (FE v x f)) := by
    cases h : realB T tau hz with
    | false => exact ⟨0, 1, by decide, fun v => real_no T tau hz v h, fun v => docreal_no T tau hz v h⟩
    | true =>
      unfold realB at h
      rw [Bool.and_eq_true, decide_eq_true_eq] at h
      obtain ⟨hl, h1, h2⟩ := h
      obtain ⟨t1, t2, -⟩ := limB_yes hl
      obtain ⟨t3, t4⟩ := tickB_yes t1
      obtain ⟨x, f, hr⟩ := ratw_exists hz T (by omega) (by omega) (by omega) (by omega)
      have hf : f = 0 := by
        rcases hr with ⟨h, -⟩ | ⟨-, -, -, h⟩ | ⟨-, -, h, -⟩
        · omega
        · exact h
        · exact h
      subst hf
      exact ⟨x, 0, (ratw_lt hr).1, fun v => real_yes T tau hz x 0 v hl h1 h2 (fun u => ratio_w hr (by omega) (by omega) (by omega) (by omega) u), fun v => docreal_yes T tau hz x v hl h1 h2 (fun u => rratio_w hr (by omega) (by omega) (by omega) (by omega) u)⟩
  obtain ⟨x, f, hx, r1, r2⟩ := one
  exact limits_core T tau hz span _ q0 g0 q g x f w hT hx r1 r2 (fun v => once_of T tau _ _ v a1) a2 b1 b2 kc1 kc2

set_option maxRecDepth 100000 in
theorem lifted (os : Os) (started : os.Started) (H : Type) (enc : TypeId × Value → H) :
    ReturnsInHanded {} Tryd.checked os 6 .any (fun w args => (Rows.rateLimitsSpec.pre enc Tryd.prog Tryd.f6 [] false w args ∧ laidMetH Tryd.prog laid1 w) ∧ sizedMet enc Tryd.prog Tryd.f6 (OpenSpec.ofChange Rows.rateLimitsSpec) false w args)
      (Rows.rateLimitsSpec.post enc Tryd.prog Tryd.f6 false true false false) := by
  refine returnsInHanded_of_change_and (C := Tryd.checked) (X := fun w _ => laidMetH Tryd.prog laid1 w) (fun _ _ _ hh h => h.of_heap hh) own started (by kernel_rfl) Tryd.func6
    (ChangeSpec.witness_shaped (enc := enc) (C := Tryd.checked) (os := os) (X := fun w _ => laidMetH Tryd.prog laid1 w) false (World.doorLaid Tryd.prog 400 os) #[.agg #[.int .i64 0, .int .i64 0], .int .i64 0, .int .i64 0] 8 rfl (World.shaped_of_RefB (by kernel_rfl) (by kernel_rfl)) (by kernel_rfl) (by kernel_rfl) (by kernel_rfl) (door_met os _)) ?_
  intro W base args ds gs before hval0 hW _ _ hL _
  have hval : ∀ (j : Nat) t v, Tryd.f6.params[j]? = some t → args[j]? = some v → Value.okWide Tryd.prog W .any base t v := hval0
  have hW' := hW
  obtain ⟨p, q, hA0, hV, rfl, hfz, hnd⟩ := hW
  have hA : DataW.TrodAll enc Tryd.prog W 0 (fun _ => true) true Tryd.f6.params.toList args.toList ds p := hA0
  rw [Tryd.params6] at hA hval
  obtain ⟨v0, vs0, d0, ds0, p0, q0, hargs, rfl, rfl, h0, r0⟩ := trodAll_cons hA
  obtain ⟨v1, vs1, d1, ds1, p1, q1, rfl, rfl, rfl, h1, r1⟩ := trodAll_cons r0
  obtain ⟨v2, vs2, d2, ds2, p2, q2, rfl, rfl, rfl, h2, r2⟩ := trodAll_cons r1
  obtain ⟨rfl, rfl, rfl⟩ := trodAll_nil r2
  obtain rfl : args = #[v0, v1, v2] := by cases args; simp_all
  obtain ⟨rfl, rfl⟩ := trodVars_none hV
  obtain ⟨c0, e0, y0, z0, m0, rfl, rfl, rfl, hy0, hz0⟩ := open_agg2 Tryd.underlying28 (by kernel_rfl) cellsL (hval 0 28 v0 rfl rfl) h0
  obtain ⟨a0, f0, rfl, w0⟩ := DataW.trod_int Tryd.underlying2 hy0
  obtain ⟨b0, g0, rfl, u0⟩ := DataW.trod_int Tryd.underlying2 hz0
  simp at f0 g0
  subst f0 g0
  obtain ⟨a1, rfl, rfl, rfl, w1⟩ := open_int Tryd.underlying2 (hval 1 2 v1 rfl rfl) h1
  obtain ⟨a2, rfl, rfl, rfl, w2⟩ := open_int Tryd.underlying2 (hval 2 2 v2 rfl rfl) h2
  have hTab := of_laid hL
  clear hA0 hval0
  have sr0 : ∀ (W' : World) (sp : Nat → Bool), DataW.Trod enc Tryd.prog W' 0 sp true 28 (.agg #[.int .i64 a0, .int .i64 b0]) (.agg [.lit (.int .i64 a0), .lit (.int .i64 b0)]) [] := fun W' sp =>
    shut_agg2 (y0 := (.lit (.int .i64 a0), [])) (y1 := (.lit (.int .i64 b0), [])) Tryd.underlying28 (by kernel_rfl) cellsL ⟨1, by simp [DataW.trod, Tryd.underlying2, w0]⟩ ⟨1, by simp [DataW.trod, Tryd.underlying2, u0]⟩
  refine (walk a0 b0 a1 a2 w0 u0 w1 w2 W hTab).mono fun e W' ⟨he, hg⟩ => ?_
  subst he
  exact ⟨_, rfl, _, _, _, [], _, [], hW', trodAll_mk1 (shut_bool Tryd.underlying4 _), (trodAll_cons_mk (sr0 _ _) (trodAll_cons_mk (shut_int Tryd.underlying2 w1) (trodAll_cons_mk (shut_int Tryd.underlying2 w2) trodAll_mk0))), rfl, hg.frame _, fun h => by cases h⟩

theorem over : Rows.rateLimitsRow.holds Tryd.pinned (OpenSpec.ofChange Rows.rateLimitsSpec) :=
  OpenClaim.holds_of_wide 6 Tryd.f6 rfl rfl rfl rfl rfl rfl rfl ⟨rfl, rfl, rfl, rfl, rfl⟩ rfl rfl rfl rfl rfl (by kernel_rfl) Tryd.func6 (by kernel_rfl)
    (of_decide_eq_true (by kernel_rfl)) (by unfold Func.isWrapper; first | (rw [if_pos (by decide +kernel)]; kernel_rfl) | (rw [if_neg (by decide +kernel)]; exact ⟨rfl, rfl⟩))
    (fun os started H enc _ => lifted os started H enc)

theorem proved : Rows.RateLimitsCardSaid :=
  Claim7.holds_tied_plain_at .later [] [.data] true (true, "85d269bd228afe2ef34ed2e288f7f1f4278f0a5f8bd47cb8147d3cef28d2a950") false
    over (fun _ h => by cases h) (by kernel_rfl) (fun _ h => by cases h) rateLimits_row_tie rfl ⟨rfl, rfl⟩ (by kernel_rfl) rfl
    (fun f fn hf hfn => by
      obtain rfl : f = 6 := Option.some.inj ((show Tryd.prog.funcNamed "spigot/spigotlaw04.RateLimits" = some 6 by kernel_rfl).symm.trans hf) |>.symm
      obtain rfl : fn = Tryd.f6 := (Option.some.inj (Tryd.func6.symm.trans hfn)).symm
      exact ⟨by kernel_rfl, fun j t ht => by
        rw [Tryd.params6] at ht
        have hm : t ∈ [28, 2, 2] := by simpa using Array.mem_of_getElem? ht
        have hall : ([28, 2, 2].all fun u => !Tryd.prog.wantsStandIn u) = true := by kernel_rfl
        exact (show Tryd.prog.wantsStandIn t = false by simpa using List.all_eq_true.1 hall t hm)⟩)
    (by kernel_rfl)
#print axioms proved
end Go.Proofs.YtbpldplbkmabmaaDoor.rateLimits
