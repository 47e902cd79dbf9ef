/- Contract of meter.Merge. Printed by gen_merge.py. -/
import Derived.Test.YtecbbdbeihiioaaMtI
import Derived.BigRegion
import Derived.Deep.RegionWith
import Derived.Deep.QuietTactic
import Derived.BigQuiet
import Derived.Deep.DeepCutAuto
namespace Go.Proofs.Ytecbbdbeihiioaa
open Go.RowKit
set_option linter.unusedVariables false

attribute [local go_sem] run_store_float'

/-- Can two counts be added? -/
def cntB (a b : Int) : Bool := decide (0 ≤ a) && (decide (0 ≤ b) && (decide (a ≤ 9007199254740992) && decide (b ≤ 9007199254740992 - a)))

set_option maxHeartbeats 1000000 in
theorem counted_any (a b : Int) (w : World) (ha : -9223372036854775808 ≤ a) (ha2 : a ≤ 9223372036854775807) :
    Calls Try.prog 56 #[.int .i64 a, .int .i64 b] w fun e w' => e = .returned (.bool (cntB a b)) ∧ w = w' := by
  unfold cntB
  by_cases h1 : 0 ≤ a
  · by_cases h2 : 0 ≤ b
    · by_cases h3 : a ≤ 9007199254740992
      · by_cases h4 : b ≤ 9007199254740992 - a
        · rw [decide_eq_true h1, decide_eq_true h2, decide_eq_true h3, decide_eq_true h4]
          go_enter Try.func56, Try.ntmps56
          go_wp2
          go_ret
          exact ⟨rfl, rfl⟩
        · rw [decide_eq_true h1, decide_eq_true h2, decide_eq_true h3, decide_eq_false h4]
          go_enter Try.func56, Try.ntmps56
          go_wp2
          go_ret
          exact ⟨rfl, rfl⟩
      · rw [decide_eq_true h1, decide_eq_true h2, decide_eq_false h3]
        go_enter Try.func56, Try.ntmps56
        go_wp2
        go_ret
        exact ⟨rfl, rfl⟩
    · rw [decide_eq_true h1, decide_eq_false h2]
      go_enter Try.func56, Try.ntmps56
      go_wp2
      go_ret
      exact ⟨rfl, rfl⟩
  · rw [decide_eq_false h1]
    go_enter Try.func56, Try.ntmps56
    go_wp2
    go_ret
    exact ⟨rfl, rfl⟩

/-- Of two lists, both with numbers. -/
def mergeM (a b : Mt) : Mt :=
  ⟨a.N + b.N, a.Bad + b.Bad, fA .add a.S b.S, fA .add (fA .add a.L b.L) (lossA a.S b.S), leastW a.Lo b.Lo, mostW a.Hi b.Hi,
    fA .add a.Me (fA .mul (fA .sub b.Me a.Me) (fA .quo (floatOfInt .f64 b.N) (floatOfInt .f64 (a.N + b.N)))),
    fA .add (fA .add a.Sp b.Sp) (fA .mul (fA .mul (fA .sub b.Me a.Me) (fA .sub b.Me a.Me)) (fA .quo (fA .mul (floatOfInt .f64 a.N) (floatOfInt .f64 b.N)) (floatOfInt .f64 (a.N + b.N))))⟩
/-- Merge's meter and error. -/
def mergeV (a b : Mt) : Mt := if (cntB a.N b.N && cntB a.Bad b.Bad) = true then (if a.N = 0 then { b with N := a.N + b.N, Bad := a.Bad + b.Bad } else if b.N = 0 then { a with N := a.N + b.N, Bad := a.Bad + b.Bad } else mergeM a b) else ⟨0, 0, 0, 0, 0, 0, 0, 0⟩
def mergeE (a b : Mt) : Int := if (cntB a.N b.N && cntB a.Bad b.Bad) = true then 0 else 1

theorem cnt_facts {a b : Int} (h : cntB a b = true) : 0 ≤ a ∧ 0 ≤ b ∧ a + b ≤ 9007199254740992 := by
  unfold cntB at h
  simp only [Bool.and_eq_true, decide_eq_true_eq] at h
  omega

set_option maxRecDepth 100000 in
set_option maxHeartbeats 8000000 in
theorem merge_bad (N Bad N2 Bad2 : Int) (S L Lo Hi Me Sp S2 L2 Lo2 Hi2 Me2 Sp2 : Nat) (w : World) (hN : -9223372036854775808 ≤ N ∧ N ≤ 9223372036854775807) (hB : -9223372036854775808 ≤ Bad ∧ Bad ≤ 9223372036854775807) (h : (cntB N N2 && cntB Bad Bad2) = false) :
    Calls Try.prog 31 #[mtV ⟨N, Bad, S, L, Lo, Hi, Me, Sp⟩, mtV ⟨N2, Bad2, S2, L2, Lo2, Hi2, Me2, Sp2⟩] w (MtErr w ⟨0, 0, 0, 0, 0, 0, 0, 0⟩ 1) := by
  have Kn := Lib.hid (fun v => counted_any N N2 v hN.1 hN.2)
  have Kb := Lib.hid (fun v => counted_any Bad Bad2 v hB.1 hB.2)
  clear hN hB
  have hcs : cntB N N2 = false ∨ (cntB N N2 = true ∧ cntB Bad Bad2 = false) := by
    cases h1 : cntB N N2
    · exact Or.inl rfl
    · rw [h1, Bool.true_and] at h; exact Or.inr ⟨rfl, h⟩
  clear h
  generalize cntB N N2 = c1 at *
  generalize cntB Bad Bad2 = c2 at *
  unfold mtV
  rcases hcs with rfl | ⟨rfl, rfl⟩
  all_goals
    go_enter Try.func31, Try.ntmps31
    go_wp2_with (go_at_call 56; (first | with_reducible refine (Kn.out _).mono ?_ | with_reducible refine (Kb.out _).mono ?_); rintro e w' ⟨rfl, rfl⟩)
    exact bodyPost_ret (v := .tuple #[.agg #[.int .i64 0, .int .i64 0, .float .f64 0, .float .f64 0, .float .f64 0, .float .f64 0, .float .f64 0, .float .f64 0], .int .i64 1]) (by simp [results, Try.results31, go_sem]) rfl ⟨⟨0, 0, 0, 0, 0, 0, 0, 0⟩, rfl, mtSim.refl _, (by unfold Mt.Ok; decide), by repeat (first | (with_reducible refine below_drewN ?_ _) | (with_reducible refine Below.setCell ?_ (by first | (simp; done) | (simp; omega)) _) | (with_reducible refine Below.alloc ?_ (by first | (simp; done) | (simp; omega)) _) | with_reducible exact Below.refl _ _)⟩

set_option maxRecDepth 100000 in
set_option maxHeartbeats 8000000 in
theorem merge_none (N Bad N2 Bad2 : Int) (S L Lo Hi Me Sp S2 L2 Lo2 Hi2 Me2 Sp2 : Nat) (w : World) (h1 : cntB N N2 = true) (h2 : cntB Bad Bad2 = true) (h0 : N = 0 ∨ (N ≠ 0 ∧ N2 = 0)) (ok1 : (⟨N, Bad, S, L, Lo, Hi, Me, Sp⟩ : Mt).Ok) (ok2 : (⟨N2, Bad2, S2, L2, Lo2, Hi2, Me2, Sp2⟩ : Mt).Ok) :
    Calls Try.prog 31 #[mtV ⟨N, Bad, S, L, Lo, Hi, Me, Sp⟩, mtV ⟨N2, Bad2, S2, L2, Lo2, Hi2, Me2, Sp2⟩] w (MtErr w (if N = 0 then ⟨N + N2, Bad + Bad2, S2, L2, Lo2, Hi2, Me2, Sp2⟩ else ⟨N + N2, Bad + Bad2, S, L, Lo, Hi, Me, Sp⟩) 0) := by
  obtain ⟨n1, n2, n3⟩ := cnt_facts h1
  obtain ⟨m1, m2, m3⟩ := cnt_facts h2
  have Kn := Lib.hid (fun v => counted_any N N2 v (by omega) (by omega))
  have Kb := Lib.hid (fun v => counted_any Bad Bad2 v (by omega) (by omega))
  rw [h1] at Kn
  rw [h2] at Kb
  have Ok1 := Lib.hid ok1; have Ok2 := Lib.hid ok2
  clear h1 h2 ok1 ok2
  unfold mtV
  rcases h0 with h0 | ⟨h0, h0'⟩
  · rw [if_pos h0]
    subst h0
    have H1 := Lib.hid (show wrap64 (Bad + Bad2) = Bad + Bad2 by unfold wrap64; omega)
    have H2 := Lib.hid (show IntKind.i64.wrap (Bad + Bad2) = Bad + Bad2 by simp [IntKind.wrap, IntKind.bits, IntKind.signed]; omega)
    have H3 := Lib.hid (show wrap64 (0 + N2) = 0 + N2 by unfold wrap64; omega)
    have H4 := Lib.hid (show wrap64 N2 = N2 by unfold wrap64; omega)
    go_enter Try.func31, Try.ntmps31
    go_wp2_with (go_at_call 56; (first | with_reducible refine (Kn.out _).mono ?_ | with_reducible refine (Kb.out _).mono ?_); rintro e w' ⟨rfl, rfl⟩)
    obtain ⟨X, hX⟩ : ∃ X, X = ((w.alloc (.cells #[.int .i64 0, .int .i64 Bad, .float .f64 S, .float .f64 L, .float .f64 Lo, .float .f64 Hi, .float .f64 Me, .float .f64 Sp] 28)).alloc (.cells #[.int .i64 N2, .int .i64 Bad2, .float .f64 S2, .float .f64 L2, .float .f64 Lo2, .float .f64 Hi2, .float .f64 Me2, .float .f64 Sp2] 28)).alloc (.cells #[.int .i64 0, .int .i64 0, .float .f64 0, .float .f64 0, .float .f64 0, .float .f64 0, .float .f64 0, .float .f64 0] 28) := ⟨_, rfl⟩
    rw [← hX]
    have hx1 : MtCell X w.heap.size ⟨0, Bad, S, L, Lo, Hi, Me, Sp⟩ := by
      rw [hX]; unfold MtCell
      refine ⟨⟨?_, ?_, ?_, ?_, ?_, ?_, ?_, ?_⟩, ?_, ?_, ?_, ?_, ?_, ?_, ?_, ?_⟩ <;> simp [go_sem]
    have hx2 : MtCell X (w.heap.size + 1) ⟨N2, Bad2, S2, L2, Lo2, Hi2, Me2, Sp2⟩ := by
      rw [hX]; unfold MtCell
      refine ⟨⟨?_, ?_, ?_, ?_, ?_, ?_, ?_, ?_⟩, ?_, ?_, ?_, ?_, ?_, ?_, ?_, ?_⟩ <;> simp [go_sem]
    have hx3 : MtCell X (w.heap.size + 1 + 1) ⟨0, 0, 0, 0, 0, 0, 0, 0⟩ := by
      rw [hX]; unfold MtCell
      refine ⟨⟨?_, ?_, ?_, ?_, ?_, ?_, ?_, ?_⟩, ?_, ?_, ?_, ?_, ?_, ?_, ?_, ?_⟩ <;> simp [go_sem]
    have hbX : Below w.heap.size w X := by
      rw [hX]
      exact (((Below.refl _ _).alloc (Nat.le_refl _) _).alloc (by simp) _).alloc (by simp; omega) _
    have HbX := Lib.hid hbX
    obtain ⟨⟨a0, a1, a2, a3, a4, a5, a6, a7⟩, f0, f1, f2, f3, f4, f5, f6, f7⟩ := hx1
    obtain ⟨⟨b0, b1, b2, b3, b4, b5, b6, b7⟩, -⟩ := hx2
    obtain ⟨⟨r0, r1, r2, r3, r4, r5, r6, r7⟩, g0, g1, g2, g3, g4, g5, g6, g7⟩ := hx3
    simp only at a0 a1 a2 a3 a4 a5 a6 a7 b0 b1 b2 b3 b4 b5 b6 b7 r0 r1 r2 r3 r4 r5 r6 r7
    clear hX hbX
    have e1 := H1.out
    have e2 := H2.out
    clear n1 n2 n3 m1 m2 m3
    go_quiet (fail)
    clear e1 e2
    go_upto_region 17 with (fail)
    obtain ⟨Y, hY⟩ : ∃ Y, Y = (((((((((X.drewN nq).setCell ⟨w.heap.size, 0, none⟩ (.int .i64 N2)).setCell ⟨w.heap.size, 1, none⟩ (.int .i64 Bad2)).setCell ⟨w.heap.size, 2, none⟩ (.float .f64 S2)).setCell ⟨w.heap.size, 3, none⟩ (.float .f64 L2)).setCell ⟨w.heap.size, 4, none⟩ (.float .f64 Lo2)).setCell ⟨w.heap.size, 5, none⟩ (.float .f64 Hi2)).setCell ⟨w.heap.size, 6, none⟩ (.float .f64 Me2)).setCell ⟨w.heap.size, 7, none⟩ (.float .f64 Sp2)) := ⟨_, rfl⟩
    rw [← hY]
    have hy1 : MtCell Y w.heap.size ⟨N2, Bad2, S2, L2, Lo2, Hi2, Me2, Sp2⟩ := by
      rw [hY]; unfold MtCell
      refine ⟨⟨?_, ?_, ?_, ?_, ?_, ?_, ?_, ?_⟩, ?_, ?_, ?_, ?_, ?_, ?_, ?_, ?_⟩ <;> simp [go_sem, a0, a1, a2, a3, a4, a5, a6, a7, f0, f1, f2, f3, f4, f5, f6, f7]
    have hy3 : MtCell Y (w.heap.size + 1 + 1) ⟨0, 0, 0, 0, 0, 0, 0, 0⟩ := by
      rw [hY]; unfold MtCell
      refine ⟨⟨?_, ?_, ?_, ?_, ?_, ?_, ?_, ?_⟩, ?_, ?_, ?_, ?_, ?_, ?_, ?_, ?_⟩ <;> simp [go_sem, r0, r1, r2, r3, r4, r5, r6, r7, g0, g1, g2, g3, g4, g5, g6, g7]
    have hbY : Below w.heap.size w Y := by
      rw [hY]
      repeat (first | with_reducible exact HbX.out | (with_reducible refine below_drewN ?_ _) | (with_reducible refine Below.setCell ?_ (by first | (simp; done) | (simp; omega)) _))
    have HbY := Lib.hid hbY
    clear hY hbY a0 a1 a2 a3 a4 a5 a6 a7 f0 f1 f2 f3 f4 f5 f6 f7 b0 b1 b2 b3 b4 b5 b6 b7 r0 r1 r2 r3 r4 r5 r6 r7 g0 g1 g2 g3 g4 g5 g6 g7
    obtain ⟨⟨a0, a1, a2, a3, a4, a5, a6, a7⟩, f0, f1, f2, f3, f4, f5, f6, f7⟩ := hy1
    obtain ⟨⟨r0, r1, r2, r3, r4, r5, r6, r7⟩, g0, g1, g2, g3, g4, g5, g6, g7⟩ := hy3
    simp only at a0 a1 a2 a3 a4 a5 a6 a7 r0 r1 r2 r3 r4 r5 r6 r7
    have e3 := H3.out
    go_upto_region 18 with (fail)
    clear e3
    go_wp2
    exact bodyPost_ret (v := .tuple #[.agg #[.int .i64 (0 + N2), .int .i64 (Bad + Bad2), .float .f64 S2, .float .f64 L2, .float .f64 Lo2, .float .f64 Hi2, .float .f64 Me2, .float .f64 Sp2], .int .i64 0]) (by simp [results, Try.results31, go_sem, H4.out, r0, r1, r2, r3, r4, r5, r6, r7]) rfl ⟨⟨0 + N2, Bad + Bad2, S2, L2, Lo2, Hi2, Me2, Sp2⟩, rfl, mtSim.refl _, Ok2.out, by repeat (first | with_reducible exact HbY.out | (with_reducible refine below_drewN ?_ _) | (with_reducible refine Below.setCell ?_ (by first | (simp; done) | (simp; omega)) _))⟩
  · rw [if_neg h0]
    have hn0 : (N == 0) = false := beq_eq_false_iff_ne.2 h0
    subst h0'
    have H1 := Lib.hid (show wrap64 (Bad + Bad2) = Bad + Bad2 by unfold wrap64; omega)
    have H2 := Lib.hid (show IntKind.i64.wrap (Bad + Bad2) = Bad + Bad2 by simp [IntKind.wrap, IntKind.bits, IntKind.signed]; omega)
    have H3 := Lib.hid (show wrap64 (N + 0) = N + 0 by unfold wrap64; omega)
    have H4 := Lib.hid (show wrap64 N = N by unfold wrap64; omega)
    go_enter Try.func31, Try.ntmps31
    go_wp2_with (go_at_call 56; (first | with_reducible refine (Kn.out _).mono ?_ | with_reducible refine (Kb.out _).mono ?_); rintro e w' ⟨rfl, rfl⟩)
    obtain ⟨X, hX⟩ : ∃ X, X = ((w.alloc (.cells #[.int .i64 N, .int .i64 Bad, .float .f64 S, .float .f64 L, .float .f64 Lo, .float .f64 Hi, .float .f64 Me, .float .f64 Sp] 28)).alloc (.cells #[.int .i64 0, .int .i64 Bad2, .float .f64 S2, .float .f64 L2, .float .f64 Lo2, .float .f64 Hi2, .float .f64 Me2, .float .f64 Sp2] 28)).alloc (.cells #[.int .i64 0, .int .i64 0, .float .f64 0, .float .f64 0, .float .f64 0, .float .f64 0, .float .f64 0, .float .f64 0] 28) := ⟨_, rfl⟩
    rw [← hX]
    have hx1 : MtCell X w.heap.size ⟨N, Bad, S, L, Lo, Hi, Me, Sp⟩ := by
      rw [hX]; unfold MtCell
      refine ⟨⟨?_, ?_, ?_, ?_, ?_, ?_, ?_, ?_⟩, ?_, ?_, ?_, ?_, ?_, ?_, ?_, ?_⟩ <;> simp [go_sem]
    have hx2 : MtCell X (w.heap.size + 1) ⟨0, Bad2, S2, L2, Lo2, Hi2, Me2, Sp2⟩ := by
      rw [hX]; unfold MtCell
      refine ⟨⟨?_, ?_, ?_, ?_, ?_, ?_, ?_, ?_⟩, ?_, ?_, ?_, ?_, ?_, ?_, ?_, ?_⟩ <;> simp [go_sem]
    have hx3 : MtCell X (w.heap.size + 1 + 1) ⟨0, 0, 0, 0, 0, 0, 0, 0⟩ := by
      rw [hX]; unfold MtCell
      refine ⟨⟨?_, ?_, ?_, ?_, ?_, ?_, ?_, ?_⟩, ?_, ?_, ?_, ?_, ?_, ?_, ?_, ?_⟩ <;> simp [go_sem]
    have hbX : Below w.heap.size w X := by
      rw [hX]
      exact (((Below.refl _ _).alloc (Nat.le_refl _) _).alloc (by simp) _).alloc (by simp; omega) _
    have HbX := Lib.hid hbX
    obtain ⟨⟨a0, a1, a2, a3, a4, a5, a6, a7⟩, f0, f1, f2, f3, f4, f5, f6, f7⟩ := hx1
    obtain ⟨⟨b0, b1, b2, b3, b4, b5, b6, b7⟩, -⟩ := hx2
    obtain ⟨⟨r0, r1, r2, r3, r4, r5, r6, r7⟩, g0, g1, g2, g3, g4, g5, g6, g7⟩ := hx3
    simp only at a0 a1 a2 a3 a4 a5 a6 a7 b0 b1 b2 b3 b4 b5 b6 b7 r0 r1 r2 r3 r4 r5 r6 r7
    clear hX hbX
    have e1 := H1.out
    have e2 := H2.out
    clear n1 n2 n3 m1 m2 m3
    go_quiet (fail)
    clear e1 e2
    go_upto_region 17 with (fail)
    have HbY := Lib.hid (below_drewN HbX.out nq)
    have e3 := H3.out
    go_upto_region 18 with (fail)
    clear e3
    go_wp2
    exact bodyPost_ret (v := .tuple #[.agg #[.int .i64 (N + 0), .int .i64 (Bad + Bad2), .float .f64 S, .float .f64 L, .float .f64 Lo, .float .f64 Hi, .float .f64 Me, .float .f64 Sp], .int .i64 0]) (by simp [results, Try.results31, go_sem, H4.out, r0, r1, r2, r3, r4, r5, r6, r7]) rfl ⟨⟨N + 0, Bad + Bad2, S, L, Lo, Hi, Me, Sp⟩, rfl, mtSim.refl _, Ok1.out, by repeat (first | with_reducible exact HbY.out | (with_reducible refine below_drewN ?_ _) | (with_reducible refine Below.setCell ?_ (by first | (simp; done) | (simp; omega)) _))⟩
end Go.Proofs.Ytecbbdbeihiioaa
