/- GcraIdle: for every input the law returns true, and its arguments read afterwards as they read before. No condition. -/
import Derived.Test.YtdjiihcbaedmcaaRows
import Derived.WalkKit
import Derived.ProofKit
import Derived.OpenShut
import Derived.Lib.SmallJoins
import Derived.Test.YtdjiihcbaedmcaaGcraM
import Derived.Test.YtdjiihcbaedmcaaGcraN
import Derived.Test.YtdjiihcbaedmcaaGcraP
namespace Go.Proofs.Ytdjiihcbaedmcaa.gcraIdle
open Go.ChangeShapes Go.WideShapes Go.ChangeAt Go.RowKit Go.Joins
set_option linter.unusedVariables false

theorem own : ownKnob Try.prog.godebug = none := by kernel_rfl

theorem cellsL : Try.prog.cellsOf 39 = 2 := by kernel_rfl

def ClRes (w : World) (T tau x y z : Int) (e : Ending) (w' : World) : Prop := e = .returned (.tuple #[limV T tau, .int .i64 x, .int .i64 y, .int .i64 z]) ∧ Below w.heap.size w w'

set_option maxHeartbeats 8000000 in
set_option maxRecDepth 100000 in
theorem core_idle (a b x y z m T tau tat now n c : Int) (g h : Bool) (d1 d2 d3 e1 t1 t2 t3 : Int) (hd : g = true → 0 < n → d1 = e1) (ht1 : h = true → 0 < n → 1 ≤ t1 ∧ t1 ≤ 4611686018427387903)
    (n0 : 0 ≤ n) (m0 : 0 ≤ m) (m1 : m ≤ 65535) (hi : tat ≤ now) (w : World)
    (kc : ∀ v, Calls Try.prog 37 #[limV a b, .int .i64 x, .int .i64 y, .int .i64 z] v (ClRes v T tau tat now n))
    (ki : ∀ v, Calls Try.prog 39 #[.int .i64 tat, .int .i64 now] v (IdleRes v (decide (tat ≤ now)) 0))
    (ka : ∀ v, Calls Try.prog 40 #[.int .i64 now, .int .i64 m] v (IntRes v c))
    (k1 : ∀ v, Calls Try.prog 33 #[limV T tau, .int .i64 tat, .int .i64 c, .int .i64 n] v (AnsTwo v g d1 d2 d3 0))
    (k2 : ∀ v, Calls Try.prog 33 #[limV T tau, .int .i64 0, .int .i64 c, .int .i64 n] v (AnsTwo v g e1 d2 d3 0))
    (k3 : ∀ v, Calls Try.prog 33 #[limV T tau, .int .i64 tat, .int .i64 now, .int .i64 n] v (AnsTwo v h t1 t2 t3 0))
    (kx : h = true → 0 < n → ∀ v, Calls Try.prog 39 #[.int .i64 t1, .int .i64 t1] v (IdleRes v true 0))
    (ky : h = true → 0 < n → ∀ v, Calls Try.prog 39 #[.int .i64 t1, .int .i64 (t1 - 1)] v (IdleRes v false 0)) :
    Calls Try.prog 12 #[limV a b, .int .i64 x, .int .i64 y, .int .i64 z, .int .u16 m] w fun e w' => e = .returned (.bool true) ∧ Below w.heap.size w w' := by
  rw [decide_eq_true hi] at ki
  have Kc := Lib.hid kc; have Ki := Lib.hid ki; have Ka := Lib.hid ka; have K1 := Lib.hid k1; have K2 := Lib.hid k2; have K3 := Lib.hid k3
  clear kc ki ka k1 k2 k3
  unfold limV at *
  by_cases hz : 0 < n
  · have hn0 : (n == 0) = false := beq_eq_false_iff_ne.2 (by omega)
    cases g
    all_goals cases h
    all_goals (first | (obtain rfl := hd rfl hz) | skip)
    all_goals (first | (obtain ⟨ht0, ht2⟩ := ht1 rfl hz; have Kx := Lib.hid (kx rfl hz); have Ky := Lib.hid (ky rfl hz)) | (have Kx : True := trivial; have Ky : True := trivial))
    all_goals clear hd ht1 kx ky
    all_goals
      go_enter Try.func12, Try.ntmps12
      go_wp2_with fail
      refine (awake5 _).mono ?_
      rintro e w1 ⟨rfl, hb⟩
      obtain ⟨hc, hf⟩ := bcell hb
      have hz : w.heap.size < w1.heap.size := by have := hb.size; simp at this; omega
      have Hb := Lib.hid (below_past hb)
      clear hb
      go_wp2_with fail
      refine (Kc.out _).mono ?_
      rintro e w2 ⟨rfl, hb2⟩
      obtain ⟨hc2, hf2⟩ := bcell hb2
      have hz2 : w.heap.size < w2.heap.size := by have := hb2.size; omega
      have Hb2 : Hid (Below w.heap.size w w2) := Hb.out.trans (hb2.mono (by omega))
      clear hb2
      unfold limV
      go_wp2_with fail
      refine (Ki.out _).mono ?_
      rintro e wi ⟨rfl, rfl⟩
      go_wp2_with fail
      refine (Ka.out _).mono ?_
      rintro e w3 ⟨rfl, hb3⟩
      obtain ⟨hc3, hf3⟩ := bcell hb3
      have hz3 : w.heap.size < w3.heap.size := by have := hb3.size; simp at this; omega
      have Hb3 : Hid (Below w.heap.size w w3) := ((Hb2.out.setCell (by simp) _).setCell (by simp) _).trans (hb3.mono (by simp; omega))
      clear hb3
      go_wp2_with fail
      refine (K1.out _).mono ?_
      rintro e w4 ⟨rfl, hb4⟩
      obtain ⟨hc4, hf4⟩ := bcell hb4
      have hz4 : w3.heap.size ≤ w4.heap.size := by have := hb4.size; omega
      have hz4' : w.heap.size < w4.heap.size := by omega
      have Hb4 : Hid (Below w.heap.size w w4) := Hb3.out.trans (hb4.mono (by omega))
      clear hb4
      unfold ansV
      go_wp2_with fail
      refine (K2.out _).mono ?_
      rintro e w5 ⟨rfl, hb5⟩
      obtain ⟨hc5, hf5⟩ := bcell hb5
      have hz5 : w4.heap.size < w5.heap.size := by have := hb5.size; simp at this; omega
      have hz5' : w.heap.size < w5.heap.size := by omega
      have Hb5 : Hid (Below w.heap.size w w5) := Hb4.out.trans ((below_past hb5).mono (by omega))
      clear hb5
      unfold ansV
      go_wp2_with fail
      refine (K3.out _).mono ?_
      rintro e w6 ⟨rfl, hb6⟩
      have Hb6 : Hid (Below w.heap.size w w6) := (Hb5.out.alloc (by omega) _).trans (hb6.mono (by simp; omega))
      have hz6 : w.heap.size ≤ w6.heap.size := by have := hb6.size; simp at this; omega
      clear hb6
      unfold ansV
      go_wp2_with (go_at_call 39; first | ((with_reducible refine (Kx.out _).mono ?_); rintro e w' ⟨rfl, rfl⟩) | ((with_reducible refine (Ky.out _).mono ?_); rintro e w' ⟨rfl, rfl⟩))
      go_ret
      exact ⟨rfl, Hb6.out.alloc hz6 _⟩
  · obtain rfl : n = 0 := by omega
    have Kx : True := trivial
    have Ky : True := trivial
    cases g
    all_goals cases h
    all_goals clear hd ht1 kx ky
    all_goals
      go_enter Try.func12, Try.ntmps12
      go_wp2_with fail
      refine (awake5 _).mono ?_
      rintro e w1 ⟨rfl, hb⟩
      obtain ⟨hc, hf⟩ := bcell hb
      have hz : w.heap.size < w1.heap.size := by have := hb.size; simp at this; omega
      have Hb := Lib.hid (below_past hb)
      clear hb
      go_wp2_with fail
      refine (Kc.out _).mono ?_
      rintro e w2 ⟨rfl, hb2⟩
      obtain ⟨hc2, hf2⟩ := bcell hb2
      have hz2 : w.heap.size < w2.heap.size := by have := hb2.size; omega
      have Hb2 : Hid (Below w.heap.size w w2) := Hb.out.trans (hb2.mono (by omega))
      clear hb2
      unfold limV
      go_wp2_with fail
      refine (Ki.out _).mono ?_
      rintro e wi ⟨rfl, rfl⟩
      go_wp2_with fail
      refine (Ka.out _).mono ?_
      rintro e w3 ⟨rfl, hb3⟩
      obtain ⟨hc3, hf3⟩ := bcell hb3
      have hz3 : w.heap.size < w3.heap.size := by have := hb3.size; simp at this; omega
      have Hb3 : Hid (Below w.heap.size w w3) := ((Hb2.out.setCell (by simp) _).setCell (by simp) _).trans (hb3.mono (by simp; omega))
      clear hb3
      go_wp2_with fail
      refine (K1.out _).mono ?_
      rintro e w4 ⟨rfl, hb4⟩
      obtain ⟨hc4, hf4⟩ := bcell hb4
      have hz4 : w3.heap.size ≤ w4.heap.size := by have := hb4.size; omega
      have hz4' : w.heap.size < w4.heap.size := by omega
      have Hb4 : Hid (Below w.heap.size w w4) := Hb3.out.trans (hb4.mono (by omega))
      clear hb4
      unfold ansV
      go_wp2_with fail
      refine (K2.out _).mono ?_
      rintro e w5 ⟨rfl, hb5⟩
      obtain ⟨hc5, hf5⟩ := bcell hb5
      have hz5 : w4.heap.size < w5.heap.size := by have := hb5.size; simp at this; omega
      have hz5' : w.heap.size < w5.heap.size := by omega
      have Hb5 : Hid (Below w.heap.size w w5) := Hb4.out.trans ((below_past hb5).mono (by omega))
      clear hb5
      unfold ansV
      go_wp2_with fail
      refine (K3.out _).mono ?_
      rintro e w6 ⟨rfl, hb6⟩
      have Hb6 : Hid (Below w.heap.size w w6) := (Hb5.out.alloc (by omega) _).trans (hb6.mono (by simp; omega))
      have hz6 : w.heap.size ≤ w6.heap.size := by have := hb6.size; simp at this; omega
      clear hb6
      unfold ansV
      go_wp2_with (go_at_call 39; first | ((with_reducible refine (Kx.out _).mono ?_); rintro e w' ⟨rfl, rfl⟩) | ((with_reducible refine (Ky.out _).mono ?_); rintro e w' ⟨rfl, rfl⟩))
      go_ret
      exact ⟨rfl, Hb6.out.alloc hz6 _⟩

set_option maxHeartbeats 8000000 in
set_option maxRecDepth 100000 in
theorem core_busy (a b x y z m T tau tat now n : Int) (h : Bool) (t1 t2 t3 : Int) (ht1 : h = true → 0 < n → 1 ≤ t1 ∧ t1 ≤ 4611686018427387903)
    (n0 : 0 ≤ n) (hi : ¬ tat ≤ now) (w : World)
    (kc : ∀ v, Calls Try.prog 37 #[limV a b, .int .i64 x, .int .i64 y, .int .i64 z] v (ClRes v T tau tat now n))
    (ki : ∀ v, Calls Try.prog 39 #[.int .i64 tat, .int .i64 now] v (IdleRes v (decide (tat ≤ now)) 0))
    (k3 : ∀ v, Calls Try.prog 33 #[limV T tau, .int .i64 tat, .int .i64 now, .int .i64 n] v (AnsTwo v h t1 t2 t3 0))
    (kx : h = true → 0 < n → ∀ v, Calls Try.prog 39 #[.int .i64 t1, .int .i64 t1] v (IdleRes v true 0))
    (ky : h = true → 0 < n → ∀ v, Calls Try.prog 39 #[.int .i64 t1, .int .i64 (t1 - 1)] v (IdleRes v false 0)) :
    Calls Try.prog 12 #[limV a b, .int .i64 x, .int .i64 y, .int .i64 z, .int .u16 m] w fun e w' => e = .returned (.bool true) ∧ Below w.heap.size w w' := by
  have hid : decide (tat ≤ now) = false := decide_eq_false hi
  rw [hid] at ki
  have Kc := Lib.hid kc; have Ki := Lib.hid ki; have K3 := Lib.hid k3
  clear kc ki k3
  unfold limV at *
  by_cases hz : 0 < n
  · have hn0 : (n == 0) = false := beq_eq_false_iff_ne.2 (by omega)
    cases h
    all_goals (first | (obtain ⟨ht0, ht2⟩ := ht1 rfl hz; have Kx := Lib.hid (kx rfl hz); have Ky := Lib.hid (ky rfl hz)) | (have Kx : True := trivial; have Ky : True := trivial))
    all_goals clear ht1 kx ky
    all_goals
      go_enter Try.func12, Try.ntmps12
      go_wp2_with fail
      refine (awake5 _).mono ?_
      rintro e w1 ⟨rfl, hb⟩
      obtain ⟨hc, hf⟩ := bcell hb
      have hz : w.heap.size < w1.heap.size := by have := hb.size; simp at this; omega
      have Hb := Lib.hid (below_past hb)
      clear hb
      go_wp2_with fail
      refine (Kc.out _).mono ?_
      rintro e w2 ⟨rfl, hb2⟩
      obtain ⟨hc2, hf2⟩ := bcell hb2
      have hz2 : w.heap.size < w2.heap.size := by have := hb2.size; omega
      have Hb2 : Hid (Below w.heap.size w w2) := Hb.out.trans (hb2.mono (by omega))
      clear hb2
      unfold limV
      go_wp2_with fail
      refine (Ki.out _).mono ?_
      rintro e wi ⟨rfl, rfl⟩
      go_wp2_with fail
      refine (K3.out _).mono ?_
      rintro e w6 ⟨rfl, hb6⟩
      have Hb6 : Hid (Below w.heap.size w w6) := ((Hb2.out.setCell (by simp) _).setCell (by simp) _).trans (hb6.mono (by simp; omega))
      have hz6 : w.heap.size ≤ w6.heap.size := by have := hb6.size; simp at this; omega
      clear hb6
      unfold ansV
      go_wp2_with (go_at_call 39; first | ((with_reducible refine (Kx.out _).mono ?_); rintro e w' ⟨rfl, rfl⟩) | ((with_reducible refine (Ky.out _).mono ?_); rintro e w' ⟨rfl, rfl⟩))
      go_ret
      exact ⟨rfl, Hb6.out.alloc hz6 _⟩
  · obtain rfl : n = 0 := by omega
    have Kx : True := trivial
    have Ky : True := trivial
    cases h
    all_goals clear ht1 kx ky
    all_goals
      go_enter Try.func12, Try.ntmps12
      go_wp2_with fail
      refine (awake5 _).mono ?_
      rintro e w1 ⟨rfl, hb⟩
      obtain ⟨hc, hf⟩ := bcell hb
      have hz : w.heap.size < w1.heap.size := by have := hb.size; simp at this; omega
      have Hb := Lib.hid (below_past hb)
      clear hb
      go_wp2_with fail
      refine (Kc.out _).mono ?_
      rintro e w2 ⟨rfl, hb2⟩
      obtain ⟨hc2, hf2⟩ := bcell hb2
      have hz2 : w.heap.size < w2.heap.size := by have := hb2.size; omega
      have Hb2 : Hid (Below w.heap.size w w2) := Hb.out.trans (hb2.mono (by omega))
      clear hb2
      unfold limV
      go_wp2_with fail
      refine (Ki.out _).mono ?_
      rintro e wi ⟨rfl, rfl⟩
      go_wp2_with fail
      refine (K3.out _).mono ?_
      rintro e w6 ⟨rfl, hb6⟩
      have Hb6 : Hid (Below w.heap.size w w6) := ((Hb2.out.setCell (by simp) _).setCell (by simp) _).trans (hb6.mono (by simp; omega))
      have hz6 : w.heap.size ≤ w6.heap.size := by have := hb6.size; simp at this; omega
      clear hb6
      unfold ansV
      go_wp2_with (go_at_call 39; first | ((with_reducible refine (Kx.out _).mono ?_); rintro e w' ⟨rfl, rfl⟩) | ((with_reducible refine (Ky.out _).mono ?_); rintro e w' ⟨rfl, rfl⟩))
      go_ret
      exact ⟨rfl, Hb6.out.alloc hz6 _⟩

theorem walk (a b x y z m : Int) (ha : (Lit.int .i64 a).wf = true) (hb : (Lit.int .i64 b).wf = true) (hx : (Lit.int .i64 x).wf = true) (hy : (Lit.int .i64 y).wf = true) (hz : (Lit.int .i64 z).wf = true) (hm : (Lit.int .u16 m).wf = true) (w : World) :
    Calls Try.prog 12 #[.agg #[.int .i64 a, .int .i64 b], .int .i64 x, .int .i64 y, .int .i64 z, .int .u16 m] w fun e w' => e = .returned (.bool true) ∧ Below w.heap.size w w' := by
  have h1 := clampI_tick a
  have hl : limB (max (clampI a) 1) (clampI b) = true := by
    have ht : tickB (max (clampI a) 1) = true := tickB_mk (by omega) (by omega)
    have h1 : decide (1 ≤ max (clampI a) 1) = true := decide_eq_true (by omega)
    unfold limB
    rw [ht, h1, tickB_clamp]
    rfl
  have mb := bounds_u16 hm
  have tm : tickB m = true := tickB_mk (by omega) (by omega)
  have kc := fun v => clamped_any a b x y z v (bounds_i64 ha).2 (bounds_i64 hb).2 (bounds_i64 hx).2 (bounds_i64 hy).2 (bounds_i64 hz).2
  have tx := tickB_clamp x; have ty := tickB_clamp y; have tz := tickB_clamp z
  have n0 := (clampI_tick z).1
  have y0 := clampI_tick y
  unfold ClampedRes at kc
  generalize max (clampI a) 1 = T at *
  generalize clampI b = tau at *
  generalize clampI x = tat at *
  generalize clampI y = now at *
  generalize clampI z = n at *
  have hdt := dec_tick hl tx ty tz
  have hT1 : decG T tau tat now n = true → 0 < n → 1 ≤ decTat T tau tat now n ∧ decTat T tau tat now n ≤ 4611686018427387903 := fun hg hn => ⟨dec_grown hl tx ty hg hn, (tickB_yes hdt).2⟩
  have kx : decG T tau tat now n = true → 0 < n → ∀ v, Calls Try.prog 39 #[.int .i64 (decTat T tau tat now n), .int .i64 (decTat T tau tat now n)] v (IdleRes v true 0) := fun _ _ v => by
    have := idle_yes (decTat T tau tat now n) (decTat T tau tat now n) v hdt hdt
    rwa [decide_eq_true (Int.le_refl _)] at this
  have ky : decG T tau tat now n = true → 0 < n → ∀ v, Calls Try.prog 39 #[.int .i64 (decTat T tau tat now n), .int .i64 (decTat T tau tat now n - 1)] v (IdleRes v false 0) := fun hg hn v => by
    have := idle_yes (decTat T tau tat now n) (decTat T tau tat now n - 1) v hdt (tickB_mk (by have := hT1 hg hn; omega) (by have := hT1 hg hn; omega))
    rwa [decide_eq_false (by omega)] at this
  by_cases hi : tat ≤ now
  · have tc := tickB_clamp (now + m)
    have hc : tat ≤ clampI (now + m) := by rw [clampI_pos (by omega)]; have := (tickB_yes tx).2; omega
    obtain ⟨q1, q2, q3, q4⟩ := idle_law hl tx tc tz hc
    have k2 := fun v => gDecide_yes T tau 0 (clampI (now + m)) n v hl (by decide) tc tz
    rw [← q1, ← q2, ← q3] at k2
    exact core_idle a b x y z m T tau tat now n (clampI (now + m)) _ _ _ _ _ _ _ _ _ q4 hT1 n0 mb.1 mb.2 hi w kc (fun v => idle_yes tat now v tx ty) (fun v => radd_yes now m v ty tm) (fun v => gDecide_yes T tau tat (clampI (now + m)) n v hl tx tc tz) k2 (fun v => gDecide_yes T tau tat now n v hl tx ty tz) kx ky
  · exact core_busy a b x y z m T tau tat now n _ _ _ _ hT1 n0 hi w kc (fun v => idle_yes tat now v tx ty) (fun v => gDecide_yes T tau tat now n v hl tx ty tz) kx ky

set_option maxRecDepth 100000 in
theorem lifted (os : Os) (started : os.Started) (H : Type) (enc : TypeId × Value → H) :
    ReturnsInHanded {} Try.checked os 12 .any (Rows.gcraIdleSpec.pre6 enc Try.prog Try.f12 Rows.gcraIdleRow.domain false) (Rows.gcraIdleSpec.post enc Try.prog Try.f12 false true false false) := by
  refine returnsInHanded_of_change (C := Try.checked) own started (by kernel_rfl) Try.func12
    (ChangeSpec.witness6 (enc := enc) (C := Try.checked) false ⟨#[], #[.agg #[.int .i64 0, .int .i64 0], .int .i64 0, .int .i64 0, .int .i64 0, .int .u16 0], []⟩ 8 (by kernel_rfl) (by kernel_rfl) (by kernel_rfl) (by kernel_rfl)) ?_
  intro W base args ds gs before hval0 hW hcnd _
  have hval : ∀ (j : Nat) t v, Try.f12.params[j]? = some t → args[j]? = some v → Value.okWide Try.prog W .any base t v := hval0
  have hW' := hW
  obtain ⟨p, q, hA0, hV, rfl, hfz, hnd⟩ := hW
  have hA : DataW.TrodAll enc Try.prog W 0 (fun _ => true) true Try.f12.params.toList args.toList ds p := hA0
  rw [Try.params12] at hA hval
  obtain ⟨v0, vs0, d0, ds0, p0, q0, hargs, rfl, rfl, h0, r0⟩ := trodAll_cons hA
  obtain ⟨v1, vs1, d1, ds1, p1, q1, rfl, rfl, rfl, h1, r1⟩ := trodAll_cons r0
  obtain ⟨v2, vs2, d2, ds2, p2, q2, rfl, rfl, rfl, h2, r2⟩ := trodAll_cons r1
  obtain ⟨v3, vs3, d3, ds3, p3, q3, rfl, rfl, rfl, h3, r3⟩ := trodAll_cons r2
  obtain ⟨v4, vs4, d4, ds4, p4, q4, rfl, rfl, rfl, h4, r4⟩ := trodAll_cons r3
  obtain ⟨rfl, rfl, rfl⟩ := trodAll_nil r4
  obtain rfl : args = #[v0, v1, v2, v3, v4] := by cases args; simp_all
  obtain ⟨rfl, rfl⟩ := trodVars_none hV
  obtain ⟨c0, e0, y0, z0, m0, rfl, rfl, rfl, hy0, hz0⟩ := open_agg2 Try.underlying39 (by kernel_rfl) cellsL (hval 0 39 v0 rfl rfl) h0
  obtain ⟨a0, f0, rfl, w0⟩ := DataW.trod_int Try.underlying2 hy0
  obtain ⟨b0, g0, rfl, u0⟩ := DataW.trod_int Try.underlying2 hz0
  simp at f0 g0
  subst f0 g0
  obtain ⟨a1, rfl, rfl, rfl, w1⟩ := open_int Try.underlying2 (hval 1 2 v1 rfl rfl) h1
  obtain ⟨a2, rfl, rfl, rfl, w2⟩ := open_int Try.underlying2 (hval 2 2 v2 rfl rfl) h2
  obtain ⟨a3, rfl, rfl, rfl, w3⟩ := open_int Try.underlying2 (hval 3 2 v3 rfl rfl) h3
  obtain ⟨a4, rfl, rfl, rfl, w4⟩ := open_int Try.underlying56 (hval 4 56 v4 rfl rfl) h4
  clear hA0 hval0
  have sr0 : ∀ (W' : World) (sp : Nat → Bool), DataW.Trod enc Try.prog W' 0 sp true 39 (.agg #[.int .i64 a0, .int .i64 b0]) (.agg [.lit (.int .i64 a0), .lit (.int .i64 b0)]) [] := fun W' sp =>
    shut_agg2 (y0 := (.lit (.int .i64 a0), [])) (y1 := (.lit (.int .i64 b0), [])) Try.underlying39 (by kernel_rfl) cellsL ⟨1, by simp [DataW.trod, Try.underlying2, w0]⟩ ⟨1, by simp [DataW.trod, Try.underlying2, u0]⟩
  refine (walk a0 b0 a1 a2 a3 a4 w0 u0 w1 w2 w3 w4 W).mono fun e W' ⟨he, hg⟩ => ?_
  subst he
  exact ⟨_, rfl, _, _, _, [], _, [], hW', trodAll_mk1 (shut_bool Try.underlying4 _), (trodAll_cons_mk (sr0 _ _) (trodAll_cons_mk (shut_int Try.underlying2 w1) (trodAll_cons_mk (shut_int Try.underlying2 w2) (trodAll_cons_mk (shut_int Try.underlying2 w3) (trodAll_cons_mk (shut_int Try.underlying56 w4) trodAll_mk0))))), rfl, hg.frame _, fun h => by cases h⟩

theorem over : Rows.gcraIdleRow.holds Try.pinned (OpenSpec.ofChange Rows.gcraIdleSpec) :=
  OpenClaim.holds_of_wide 12 Try.f12 rfl rfl rfl rfl rfl rfl rfl ⟨rfl, rfl, rfl, rfl, rfl⟩ rfl rfl rfl rfl rfl (by kernel_rfl) Try.func12 (by kernel_rfl)
    (of_decide_eq_true (by kernel_rfl)) (by unfold Func.isWrapper; first | (rw [if_pos (by decide +kernel)]; kernel_rfl) | (rw [if_neg (by decide +kernel)]; exact ⟨rfl, rfl⟩))
    (fun os started H enc _ => lifted os started H enc)

theorem proved : Rows.GcraIdleSaid :=
  over
#print axioms proved
end Go.Proofs.Ytdjiihcbaedmcaa.gcraIdle
