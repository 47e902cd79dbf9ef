/- GcraParts: for every input the law returns true, and its arguments read afterwards as they read before. No condition. -/
import Derived.Test.YtdjiihcbaedmcaaRows
import Derived.WalkKit
import Derived.ProofKit
import Derived.OpenShut
import Derived.Lib.SmallJoins
import Derived.Test.YtdjiihcbaedmcaaGcraM
import Derived.Test.YtdjiihcbaedmcaaGcraN
import Derived.Test.YtdjiihcbaedmcaaGcraP
namespace Go.Proofs.Ytdjiihcbaedmcaa.gcraParts
open Go.ChangeShapes Go.WideShapes Go.ChangeAt Go.RowKit Go.Joins
set_option linter.unusedVariables false

theorem own : ownKnob Try.prog.godebug = none := by kernel_rfl

theorem cellsL : Try.prog.cellsOf 39 = 2 := by kernel_rfl

def ClRes (w : World) (T tau x y z : Int) (e : Ending) (w' : World) : Prop := e = .returned (.tuple #[limV T tau, .int .i64 x, .int .i64 y, .int .i64 z]) ∧ Below w.heap.size w w'

set_option maxHeartbeats 4000000 in
set_option maxRecDepth 100000 in
theorem core (a b x y T tau tat now z p q : Int) (g1 g2 : Bool) (d1 d2 d3 f1 f2 f3 s1 s2 s3 : Int) (hs1 : (g1 && g2) = true → d1 = s1 ∧ d3 = s3)
    (p0 : 0 ≤ p) (p1 : p ≤ 4294967295) (q0 : 0 ≤ q) (q1 : q ≤ 4294967295) (w : World)
    (kc : ∀ v, Calls Try.prog 37 #[limV a b, .int .i64 x, .int .i64 y, .int .i64 0] v (ClRes v T tau tat now z))
    (k1 : ∀ v, Calls Try.prog 33 #[limV T tau, .int .i64 tat, .int .i64 now, .int .i64 (p + q)] v (AnsTwo v (g1 && g2) d1 d2 d3 0))
    (k2 : ∀ v, Calls Try.prog 33 #[limV T tau, .int .i64 tat, .int .i64 now, .int .i64 p] v (AnsTwo v g1 f1 f2 f3 0))
    (k3 : ∀ v, Calls Try.prog 33 #[limV T tau, .int .i64 f1, .int .i64 now, .int .i64 q] v (AnsTwo v g2 s1 s2 s3 0)) :
    Calls Try.prog 11 #[limV a b, .int .i64 x, .int .i64 y, .int .u32 p, .int .u32 q] w fun e w' => e = .returned (.bool true) ∧ Below w.heap.size w w' := by
  have Kc := Lib.hid kc; have K1 := Lib.hid k1; have K2 := Lib.hid k2; have K3 := Lib.hid k3
  clear kc k1 k2 k3
  unfold limV at *
  cases g1
  all_goals cases g2
  all_goals (first | (obtain ⟨rfl, rfl⟩ := hs1 rfl) | skip)
  all_goals clear hs1
  all_goals
    go_enter Try.func11, Try.ntmps11
    go_wp2_with fail
    refine (awake5 _).mono ?_
    rintro e w1 ⟨rfl, hb⟩
    obtain ⟨hc, hf⟩ := bcell hb
    have hz : w.heap.size < w1.heap.size := by have := hb.size; simp at this; omega
    have Hb := Lib.hid (below_past hb)
    clear hb
    go_wp2_with fail
    refine (Kc.out _).mono ?_
    rintro e w2 ⟨rfl, hb2⟩
    obtain ⟨hc2, hf2⟩ := bcell hb2
    have hz2 : w.heap.size < w2.heap.size := by have := hb2.size; omega
    have Hb2 : Hid (Below w.heap.size w w2) := Hb.out.trans (hb2.mono (by omega))
    clear hb2
    unfold limV
    go_wp2_with fail
    refine (K1.out _).mono ?_
    rintro e w3 ⟨rfl, hb3⟩
    obtain ⟨hc3, hf3⟩ := bcell hb3
    have hz3 : w.heap.size < w3.heap.size := by have := hb3.size; simp at this; omega
    have Hb3 : Hid (Below w.heap.size w w3) := ((Hb2.out.setCell (by simp) _).setCell (by simp) _).trans (hb3.mono (by simp; omega))
    clear hb3
    unfold ansV
    go_wp2_with fail
    refine (K2.out _).mono ?_
    rintro e w4 ⟨rfl, hb4⟩
    obtain ⟨hc4, hf4⟩ := bcell hb4
    have hz4 : w3.heap.size < w4.heap.size := by have := hb4.size; simp at this; omega
    have hz4' : w.heap.size < w4.heap.size := by omega
    have Hb4 : Hid (Below w.heap.size w w4) := Hb3.out.trans ((below_past hb4).mono (by omega))
    clear hb4
    unfold ansV
    go_wp2_with fail
    refine (K3.out _).mono ?_
    rintro e w5 ⟨rfl, hb5⟩
    obtain ⟨hc5, hf5⟩ := bcell hb5
    have hz5 : w4.heap.size < w5.heap.size := by have := hb5.size; simp at this; omega
    have hz5' : w3.heap.size < w5.heap.size := by omega
    have Hb5 : Hid (Below w.heap.size w w5) := Hb4.out.trans ((below_past hb5).mono (by omega))
    clear hb5
    unfold ansV
    go_wp2
    go_ret
    exact ⟨rfl, Hb5.out.alloc (by omega) _⟩

theorem walk (a b x y p q : Int) (ha : (Lit.int .i64 a).wf = true) (hb : (Lit.int .i64 b).wf = true) (hx : (Lit.int .i64 x).wf = true) (hy : (Lit.int .i64 y).wf = true) (hp : (Lit.int .u32 p).wf = true) (hq : (Lit.int .u32 q).wf = true) (w : World) :
    Calls Try.prog 11 #[.agg #[.int .i64 a, .int .i64 b], .int .i64 x, .int .i64 y, .int .u32 p, .int .u32 q] w fun e w' => e = .returned (.bool true) ∧ Below w.heap.size w w' := by
  have h1 := clampI_tick a
  have hl : limB (max (clampI a) 1) (clampI b) = true := by
    have ht : tickB (max (clampI a) 1) = true := tickB_mk (by omega) (by omega)
    have h1 : decide (1 ≤ max (clampI a) 1) = true := decide_eq_true (by omega)
    unfold limB
    rw [ht, h1, tickB_clamp]
    rfl
  have pb := bounds_u32 hp; have qb := bounds_u32 hq
  have tp : tickB p = true := tickB_mk (by omega) (by omega)
  have tq : tickB q = true := tickB_mk (by omega) (by omega)
  have tpq : tickB (p + q) = true := tickB_mk (by omega) (by omega)
  obtain ⟨hG, hT⟩ := parts_law hl (tickB_clamp x) (tickB_clamp y) tp tq
  have k1 := fun v => gDecide_yes _ _ _ _ (p + q) v hl (tickB_clamp x) (tickB_clamp y) tpq
  have hL : decG (max (clampI a) 1) (clampI b) (clampI x) (clampI y) (p + q) = true → decLeft (max (clampI a) 1) (clampI b) (clampI x) (clampI y) (p + q) = decLeft (max (clampI a) 1) (clampI b) (decTat (max (clampI a) 1) (clampI b) (clampI x) (clampI y) p) (clampI y) q := fun h => by
    unfold decLeft
    rw [hT h]
  rw [hG] at k1 hT hL
  exact core a b x y _ _ _ _ _ p q _ _ _ _ _ _ _ _ _ _ _ (fun h => ⟨hT h, hL h⟩) pb.1 pb.2 qb.1 qb.2 w (fun v => clamped_any a b x y 0 v (bounds_i64 ha).2 (bounds_i64 hb).2 (bounds_i64 hx).2 (bounds_i64 hy).2 (by omega)) k1
    (fun v => gDecide_yes _ _ _ _ p v hl (tickB_clamp x) (tickB_clamp y) tp) (fun v => gDecide_yes _ _ _ _ q v hl (dec_tick hl (tickB_clamp x) (tickB_clamp y) tp) (tickB_clamp y) tq)

set_option maxRecDepth 100000 in
theorem lifted (os : Os) (started : os.Started) (H : Type) (enc : TypeId × Value → H) :
    ReturnsInHanded {} Try.checked os 11 .any (Rows.gcraPartsSpec.pre6 enc Try.prog Try.f11 Rows.gcraPartsRow.domain false) (Rows.gcraPartsSpec.post enc Try.prog Try.f11 false true false false) := by
  refine returnsInHanded_of_change (C := Try.checked) own started (by kernel_rfl) Try.func11
    (ChangeSpec.witness6 (enc := enc) (C := Try.checked) false ⟨#[], #[.agg #[.int .i64 0, .int .i64 0], .int .i64 0, .int .i64 0, .int .u32 0, .int .u32 0], []⟩ 8 (by kernel_rfl) (by kernel_rfl) (by kernel_rfl) (by kernel_rfl)) ?_
  intro W base args ds gs before hval0 hW hcnd _
  have hval : ∀ (j : Nat) t v, Try.f11.params[j]? = some t → args[j]? = some v → Value.okWide Try.prog W .any base t v := hval0
  have hW' := hW
  obtain ⟨p, q, hA0, hV, rfl, hfz, hnd⟩ := hW
  have hA : DataW.TrodAll enc Try.prog W 0 (fun _ => true) true Try.f11.params.toList args.toList ds p := hA0
  rw [Try.params11] at hA hval
  obtain ⟨v0, vs0, d0, ds0, p0, q0, hargs, rfl, rfl, h0, r0⟩ := trodAll_cons hA
  obtain ⟨v1, vs1, d1, ds1, p1, q1, rfl, rfl, rfl, h1, r1⟩ := trodAll_cons r0
  obtain ⟨v2, vs2, d2, ds2, p2, q2, rfl, rfl, rfl, h2, r2⟩ := trodAll_cons r1
  obtain ⟨v3, vs3, d3, ds3, p3, q3, rfl, rfl, rfl, h3, r3⟩ := trodAll_cons r2
  obtain ⟨v4, vs4, d4, ds4, p4, q4, rfl, rfl, rfl, h4, r4⟩ := trodAll_cons r3
  obtain ⟨rfl, rfl, rfl⟩ := trodAll_nil r4
  obtain rfl : args = #[v0, v1, v2, v3, v4] := by cases args; simp_all
  obtain ⟨rfl, rfl⟩ := trodVars_none hV
  obtain ⟨c0, e0, y0, z0, m0, rfl, rfl, rfl, hy0, hz0⟩ := open_agg2 Try.underlying39 (by kernel_rfl) cellsL (hval 0 39 v0 rfl rfl) h0
  obtain ⟨a0, f0, rfl, w0⟩ := DataW.trod_int Try.underlying2 hy0
  obtain ⟨b0, g0, rfl, u0⟩ := DataW.trod_int Try.underlying2 hz0
  simp at f0 g0
  subst f0 g0
  obtain ⟨a1, rfl, rfl, rfl, w1⟩ := open_int Try.underlying2 (hval 1 2 v1 rfl rfl) h1
  obtain ⟨a2, rfl, rfl, rfl, w2⟩ := open_int Try.underlying2 (hval 2 2 v2 rfl rfl) h2
  obtain ⟨a3, rfl, rfl, rfl, w3⟩ := open_int Try.underlying54 (hval 3 54 v3 rfl rfl) h3
  obtain ⟨a4, rfl, rfl, rfl, w4⟩ := open_int Try.underlying54 (hval 4 54 v4 rfl rfl) h4
  clear hA0 hval0
  have sr0 : ∀ (W' : World) (sp : Nat → Bool), DataW.Trod enc Try.prog W' 0 sp true 39 (.agg #[.int .i64 a0, .int .i64 b0]) (.agg [.lit (.int .i64 a0), .lit (.int .i64 b0)]) [] := fun W' sp =>
    shut_agg2 (y0 := (.lit (.int .i64 a0), [])) (y1 := (.lit (.int .i64 b0), [])) Try.underlying39 (by kernel_rfl) cellsL ⟨1, by simp [DataW.trod, Try.underlying2, w0]⟩ ⟨1, by simp [DataW.trod, Try.underlying2, u0]⟩
  refine (walk a0 b0 a1 a2 a3 a4 w0 u0 w1 w2 w3 w4 W).mono fun e W' ⟨he, hg⟩ => ?_
  subst he
  exact ⟨_, rfl, _, _, _, [], _, [], hW', trodAll_mk1 (shut_bool Try.underlying4 _), (trodAll_cons_mk (sr0 _ _) (trodAll_cons_mk (shut_int Try.underlying2 w1) (trodAll_cons_mk (shut_int Try.underlying2 w2) (trodAll_cons_mk (shut_int Try.underlying54 w3) (trodAll_cons_mk (shut_int Try.underlying54 w4) trodAll_mk0))))), rfl, hg.frame _, fun h => by cases h⟩

theorem over : Rows.gcraPartsRow.holds Try.pinned (OpenSpec.ofChange Rows.gcraPartsSpec) :=
  OpenClaim.holds_of_wide 11 Try.f11 rfl rfl rfl rfl rfl rfl rfl ⟨rfl, rfl, rfl, rfl, rfl⟩ rfl rfl rfl rfl rfl (by kernel_rfl) Try.func11 (by kernel_rfl)
    (of_decide_eq_true (by kernel_rfl)) (by unfold Func.isWrapper; first | (rw [if_pos (by decide +kernel)]; kernel_rfl) | (rw [if_neg (by decide +kernel)]; exact ⟨rfl, rfl⟩))
    (fun os started H enc _ => lifted os started H enc)

theorem proved : Rows.GcraPartsSaid :=
  over
#print axioms proved
end Go.Proofs.Ytdjiihcbaedmcaa.gcraParts
