/- Contracts of layer 5's statements' own helpers: same, awake, granted, clamped. -/
import Derived.Test.YtdjiihcbaedmcaaGcraK
import Derived.Test.YtdjiihcbaedmcaaGcraG
import Derived.Deep.RegionHeld3
namespace Go.Proofs.Ytdjiihcbaedmcaa
open Go.RowKit

set_option maxHeartbeats 1000000 in
theorem same_yes (g : Bool) (a b c : Int) (w : World) :
    Calls Try.prog 36 #[ansV g a b c, ansV g a b c] w (BoolRes w true) := by
  unfold ansV
  have hg : (g == g) = true := by simp
  go_enter Try.func36, Try.ntmps36
  go_wp2
  go_ret
  exact ⟨rfl, ((Below.refl _ _).alloc (Nat.le_refl _) _).alloc (by simp) _⟩

set_option maxHeartbeats 2000000 in
set_option maxRecDepth 100000 in
theorem awake5 (w : World) :
    Calls Try.prog 35 #[] w (BoolRes w true) := by
  have k1 := fun v => gDecide_yes 10 20 0 100 1 v (by decide) (by decide) (by decide) (by decide)
  have k2 := fun v => gDecide_yes 10 20 130 100 1 v (by decide) (by decide) (by decide) (by decide)
  rw [show decG 10 20 0 100 1 = true by decide, show decTat 10 20 0 100 1 = 110 by decide, show decWait 10 20 0 100 1 = 0 by decide, show decLeft 10 20 0 100 1 = 2 by decide] at k1
  rw [show decG 10 20 130 100 1 = false by decide, show decTat 10 20 130 100 1 = 130 by decide, show decWait 10 20 130 100 1 = 10 by decide, show decLeft 10 20 130 100 1 = 0 by decide] at k2
  have K1 := Lib.hid k1; have K2 := Lib.hid k2
  clear k1 k2
  have Ks1 := Lib.hid (fun v => same_yes true 110 0 2 v)
  have Ks2 := Lib.hid (fun v => same_yes false 130 10 0 v)
  unfold limV ansV at *
  go_enter Try.func35, Try.ntmps35
  go_wp2_with fail
  refine (K1.out _).mono ?_
  rintro e w1 ⟨rfl, hb⟩
  obtain ⟨hc, hf⟩ := bcell hb
  have hz0 : w.heap.size < w1.heap.size := by have := hb.size; simp at this; omega
  have Hb := Lib.hid (below_past hb)
  clear hb
  unfold ansV
  go_wp2_with fail
  refine (K2.out _).mono ?_
  rintro e w2 ⟨rfl, hb2⟩
  obtain ⟨hc2, hf2⟩ := bcell hb2
  have hz2 : w1.heap.size < w2.heap.size := by have := hb2.size; simp at this; omega
  have Hb2 : Hid (Below w.heap.size w w2) := Hb.out.trans ((below_past hb2).mono (by omega))
  clear hb2
  unfold ansV
  go_wp2_with fail
  refine (Ks1.out _).mono ?_
  rintro e w3 ⟨rfl, hb3⟩
  obtain ⟨hc3, hf3⟩ := bcell hb3
  have hz3 : w2.heap.size < w3.heap.size := by have := hb3.size; simp at this; omega
  have Hb3 : Hid (Below w.heap.size w w3) := Hb2.out.trans ((below_past hb3).mono (by omega))
  clear hb3
  go_wp2_with fail
  refine (Ks2.out _).mono ?_
  rintro e w4 ⟨rfl, hb4⟩
  have Hb4 : Hid (Below w.heap.size w w4) := Hb3.out.trans (hb4.mono (by omega))
  clear hb4
  go_wp2
  go_ret
  exact ⟨rfl, Hb4.out⟩

def GrRes (w : World) (a b : Bool) (e : Ending) (w' : World) : Prop := e = .returned (.tuple #[.bool a, .bool b]) ∧ Below w.heap.size w w'

set_option maxHeartbeats 1000000 in
theorem granted_yes (T tau tat now n : Int) (w : World) (h : limB T tau = true) (ht : tickB tat = true) (hnow : tickB now = true) (hn : tickB n = true) :
    Calls Try.prog 38 #[limV T tau, .int .i64 tat, .int .i64 now, .int .i64 n] w (GrRes w (decG T tau tat now n) true) := by
  have Hd := Lib.hid (fun v => gDecide_yes T tau tat now n v h ht hnow hn)
  clear h ht hnow hn
  generalize decG T tau tat now n = g at *
  generalize decTat T tau tat now n = d1 at *
  generalize decWait T tau tat now n = d2 at *
  generalize decLeft T tau tat now n = d3 at *
  unfold limV at *
  go_enter Try.func38, Try.ntmps38
  go_wp2_with fail
  refine (Hd.out _).mono ?_
  rintro e w1 ⟨rfl, hb⟩
  have Hb := Lib.hid (below_past hb)
  clear hb
  unfold ansV
  go_wp2
  go_ret2
  exact ⟨rfl, Hb.out.alloc Hb.out.size _⟩

theorem gc_later {w W W' : World} {T tau : Int} (h : W.cell? ⟨w.heap.size, 0, none⟩ = some (.int .i64 T) ∧ W.cell? ⟨w.heap.size, 1, none⟩ = some (.int .i64 tau) ∧ W.cell? ⟨w.heap.size + 1, 0, none⟩ = some (.int .i64 0) ∧ W.cell? ⟨w.heap.size + 1, 1, none⟩ = some (.int .i64 0) ∧ W.frozen? ⟨w.heap.size + 1, 0, none⟩ = false ∧ W.frozen? ⟨w.heap.size + 1, 1, none⟩ = false ∧ w.heap.size + 1 < W.heap.size ∧ Below w.heap.size w W) (hb : Below W.heap.size W W') :
    W'.cell? ⟨w.heap.size, 0, none⟩ = some (.int .i64 T) ∧ W'.cell? ⟨w.heap.size, 1, none⟩ = some (.int .i64 tau) ∧ W'.cell? ⟨w.heap.size + 1, 0, none⟩ = some (.int .i64 0) ∧ W'.cell? ⟨w.heap.size + 1, 1, none⟩ = some (.int .i64 0) ∧ W'.frozen? ⟨w.heap.size + 1, 0, none⟩ = false ∧ W'.frozen? ⟨w.heap.size + 1, 1, none⟩ = false ∧ w.heap.size + 1 < W'.heap.size ∧ Below w.heap.size w W' :=
  ⟨cell_later hb h.1, cell_later hb h.2.1, cell_later hb h.2.2.1, cell_later hb h.2.2.2.1, (hb.frozen (p := ⟨w.heap.size + 1, 0, none⟩) h.2.2.2.2.2.2.1).trans h.2.2.2.2.1, (hb.frozen (p := ⟨w.heap.size + 1, 1, none⟩) h.2.2.2.2.2.2.1).trans h.2.2.2.2.2.1, Nat.lt_of_lt_of_le h.2.2.2.2.2.2.1 hb.size, h.2.2.2.2.2.2.2.trans (hb.mono h.2.2.2.2.2.2.2.size)⟩

def ClampedRes (w : World) (T tau tat now n : Int) (e : Ending) (w' : World) : Prop :=
  e = .returned (.tuple #[limV (max (clampI T) 1) (clampI tau), .int .i64 (clampI tat), .int .i64 (clampI now), .int .i64 (clampI n)]) ∧ Below w.heap.size w w'

set_option maxHeartbeats 4000000 in
set_option maxRecDepth 100000 in
theorem clamped_any (T tau tat now n : Int) (w : World) (hT : T ≤ 9223372036854775807) (htau : tau ≤ 9223372036854775807) (ht : tat ≤ 9223372036854775807) (hnow : now ≤ 9223372036854775807) (hn : n ≤ 9223372036854775807) :
    Calls Try.prog 37 #[limV T tau, .int .i64 tat, .int .i64 now, .int .i64 n] w (ClampedRes w T tau tat now n) := by
  have c1 := clampI_tick T
  have K1 := Lib.hid (fun v => rclamp_any T v hT)
  have K2 := Lib.hid (fun v => rclamp_any tau v htau)
  have K3 := Lib.hid (fun v => rclamp_any tat v ht)
  have K4 := Lib.hid (fun v => rclamp_any now v hnow)
  have K5 := Lib.hid (fun v => rclamp_any n v hn)
  clear hT htau ht hnow hn
  unfold ClampedRes
  generalize clampI T = x1 at *
  generalize clampI tau = x2 at *
  generalize clampI tat = x3 at *
  generalize clampI now = x4 at *
  generalize clampI n = x5 at *
  have c10 := c1.1
  clear c1
  unfold limV
  by_cases hm : x1 < 1
  · have hmx : max x1 1 = 1 := by omega
    rw [hmx]
    clear hmx
    go_enter Try.func37, Try.ntmps37
    go_wp2_with fail
    generalize hW0 : ((w.alloc (.cells #[.int .i64 T, .int .i64 tau] 39)).alloc (.cells #[.int .i64 0, .int .i64 0] 39)) = W0
    have Hs0 : Hid (W0.drew.cell? ⟨w.heap.size, 0, none⟩ = some (.int .i64 T) ∧ W0.drew.cell? ⟨w.heap.size, 1, none⟩ = some (.int .i64 tau) ∧ W0.drew.cell? ⟨w.heap.size + 1, 0, none⟩ = some (.int .i64 0) ∧ W0.drew.cell? ⟨w.heap.size + 1, 1, none⟩ = some (.int .i64 0) ∧ W0.drew.frozen? ⟨w.heap.size + 1, 0, none⟩ = false ∧ W0.drew.frozen? ⟨w.heap.size + 1, 1, none⟩ = false ∧ w.heap.size + 1 < W0.drew.heap.size ∧ Below w.heap.size w W0.drew) := by subst hW0; refine ⟨by simp [go_sem], by simp [go_sem], by simp [go_sem], by simp [go_sem], by simp [go_sem], by simp [go_sem], by simp, ?_⟩; exact (((Below.refl _ _).alloc (Nat.le_refl _) _).alloc (by simp) _).drew
    have g0 := Hs0.out.1
    have g1 := Hs0.out.2.1
    clear hW0
    go_region_held3 (fun w' => w'.cell? ⟨w.heap.size, 0, none⟩ = some (.int .i64 T) ∧ w'.cell? ⟨w.heap.size, 1, none⟩ = some (.int .i64 tau)) (first | exact ⟨Hs0.out.1, Hs0.out.2.1⟩ | exact ⟨Hs1.out.1, Hs1.out.2.1⟩ | exact ⟨Hs2.out.1, Hs2.out.2.1⟩ | exact ⟨Hs3.out.1, Hs3.out.2.1⟩ | exact ⟨Hs4.out.1, Hs4.out.2.1⟩ | exact ⟨Hs5.out.1, Hs5.out.2.1⟩ | go_keep) (first | (go_at_call 21; (with_reducible refine (K1.out _).mono ?_); rintro e w1 ⟨rfl, hb0⟩; have Hs1 := Lib.hid (gc_later Hs0.out hb0); have g1a := Hs1.out.1; have g1b := Hs1.out.2.1; have d1a := Hs1.out.2.2.1; have d1b := Hs1.out.2.2.2.1; have f1a := Hs1.out.2.2.2.2.1; have f1b := Hs1.out.2.2.2.2.2.1; clear hb0) | (go_at_call 21; (with_reducible refine (K2.out _).mono ?_); rintro e w2 ⟨rfl, hb0⟩; have Hs2 := Lib.hid (gc_later Hs1.out hb0); have g2a := Hs2.out.1; have g2b := Hs2.out.2.1; have d2a := Hs2.out.2.2.1; have d2b := Hs2.out.2.2.2.1; have f2a := Hs2.out.2.2.2.2.1; have f2b := Hs2.out.2.2.2.2.2.1; clear hb0) | (go_at_call 21; (with_reducible refine (K3.out _).mono ?_); rintro e w3 ⟨rfl, hb0⟩; have Hs3 := Lib.hid (gc_later Hs2.out hb0); have g3a := Hs3.out.1; have g3b := Hs3.out.2.1; have d3a := Hs3.out.2.2.1; have d3b := Hs3.out.2.2.2.1; have f3a := Hs3.out.2.2.2.2.1; have f3b := Hs3.out.2.2.2.2.2.1; clear hb0) | (go_at_call 21; (with_reducible refine (K4.out _).mono ?_); rintro e w4 ⟨rfl, hb0⟩; have Hs4 := Lib.hid (gc_later Hs3.out hb0); have g4a := Hs4.out.1; have g4b := Hs4.out.2.1; have d4a := Hs4.out.2.2.1; have d4b := Hs4.out.2.2.2.1; have f4a := Hs4.out.2.2.2.2.1; have f4b := Hs4.out.2.2.2.2.2.1; clear hb0) | (go_at_call 21; (with_reducible refine (K5.out _).mono ?_); rintro e w5 ⟨rfl, hb0⟩; have Hs5 := Lib.hid (gc_later Hs4.out hb0); have g5a := Hs5.out.1; have g5b := Hs5.out.2.1; have d5a := Hs5.out.2.2.1; have d5b := Hs5.out.2.2.2.1; have f5a := Hs5.out.2.2.2.2.1; have f5b := Hs5.out.2.2.2.2.2.1; clear hb0))
    all_goals go_wp2
    all_goals exact bodyPost_ret (v := .tuple #[limV 1 x2, .int .i64 x3, .int .i64 x4, .int .i64 x5]) (by simp [results, Try.results37, go_sem, limV, *]) rfl ⟨rfl, by repeat (first | exact Hs5.out.2.2.2.2.2.2.2 | (refine Below.setCell ?_ (by first | (simp; done) | (simp; omega)) _))⟩
  · have hmx : max x1 1 = x1 := by omega
    rw [hmx]
    clear hmx
    go_enter Try.func37, Try.ntmps37
    go_wp2_with fail
    generalize hW0 : ((w.alloc (.cells #[.int .i64 T, .int .i64 tau] 39)).alloc (.cells #[.int .i64 0, .int .i64 0] 39)) = W0
    have Hs0 : Hid (W0.drew.cell? ⟨w.heap.size, 0, none⟩ = some (.int .i64 T) ∧ W0.drew.cell? ⟨w.heap.size, 1, none⟩ = some (.int .i64 tau) ∧ W0.drew.cell? ⟨w.heap.size + 1, 0, none⟩ = some (.int .i64 0) ∧ W0.drew.cell? ⟨w.heap.size + 1, 1, none⟩ = some (.int .i64 0) ∧ W0.drew.frozen? ⟨w.heap.size + 1, 0, none⟩ = false ∧ W0.drew.frozen? ⟨w.heap.size + 1, 1, none⟩ = false ∧ w.heap.size + 1 < W0.drew.heap.size ∧ Below w.heap.size w W0.drew) := by subst hW0; refine ⟨by simp [go_sem], by simp [go_sem], by simp [go_sem], by simp [go_sem], by simp [go_sem], by simp [go_sem], by simp, ?_⟩; exact (((Below.refl _ _).alloc (Nat.le_refl _) _).alloc (by simp) _).drew
    have g0 := Hs0.out.1
    have g1 := Hs0.out.2.1
    clear hW0
    go_region_held3 (fun w' => w'.cell? ⟨w.heap.size, 0, none⟩ = some (.int .i64 T) ∧ w'.cell? ⟨w.heap.size, 1, none⟩ = some (.int .i64 tau)) (first | exact ⟨Hs0.out.1, Hs0.out.2.1⟩ | exact ⟨Hs1.out.1, Hs1.out.2.1⟩ | exact ⟨Hs2.out.1, Hs2.out.2.1⟩ | exact ⟨Hs3.out.1, Hs3.out.2.1⟩ | exact ⟨Hs4.out.1, Hs4.out.2.1⟩ | exact ⟨Hs5.out.1, Hs5.out.2.1⟩ | go_keep) (first | (go_at_call 21; (with_reducible refine (K1.out _).mono ?_); rintro e w1 ⟨rfl, hb0⟩; have Hs1 := Lib.hid (gc_later Hs0.out hb0); have g1a := Hs1.out.1; have g1b := Hs1.out.2.1; have d1a := Hs1.out.2.2.1; have d1b := Hs1.out.2.2.2.1; have f1a := Hs1.out.2.2.2.2.1; have f1b := Hs1.out.2.2.2.2.2.1; clear hb0) | (go_at_call 21; (with_reducible refine (K2.out _).mono ?_); rintro e w2 ⟨rfl, hb0⟩; have Hs2 := Lib.hid (gc_later Hs1.out hb0); have g2a := Hs2.out.1; have g2b := Hs2.out.2.1; have d2a := Hs2.out.2.2.1; have d2b := Hs2.out.2.2.2.1; have f2a := Hs2.out.2.2.2.2.1; have f2b := Hs2.out.2.2.2.2.2.1; clear hb0) | (go_at_call 21; (with_reducible refine (K3.out _).mono ?_); rintro e w3 ⟨rfl, hb0⟩; have Hs3 := Lib.hid (gc_later Hs2.out hb0); have g3a := Hs3.out.1; have g3b := Hs3.out.2.1; have d3a := Hs3.out.2.2.1; have d3b := Hs3.out.2.2.2.1; have f3a := Hs3.out.2.2.2.2.1; have f3b := Hs3.out.2.2.2.2.2.1; clear hb0) | (go_at_call 21; (with_reducible refine (K4.out _).mono ?_); rintro e w4 ⟨rfl, hb0⟩; have Hs4 := Lib.hid (gc_later Hs3.out hb0); have g4a := Hs4.out.1; have g4b := Hs4.out.2.1; have d4a := Hs4.out.2.2.1; have d4b := Hs4.out.2.2.2.1; have f4a := Hs4.out.2.2.2.2.1; have f4b := Hs4.out.2.2.2.2.2.1; clear hb0) | (go_at_call 21; (with_reducible refine (K5.out _).mono ?_); rintro e w5 ⟨rfl, hb0⟩; have Hs5 := Lib.hid (gc_later Hs4.out hb0); have g5a := Hs5.out.1; have g5b := Hs5.out.2.1; have d5a := Hs5.out.2.2.1; have d5b := Hs5.out.2.2.2.1; have f5a := Hs5.out.2.2.2.2.1; have f5b := Hs5.out.2.2.2.2.2.1; clear hb0))
    all_goals go_wp2
    all_goals exact bodyPost_ret (v := .tuple #[limV x1 x2, .int .i64 x3, .int .i64 x4, .int .i64 x5]) (by simp [results, Try.results37, go_sem, limV, *]) rfl ⟨rfl, by repeat (first | exact Hs5.out.2.2.2.2.2.2.2 | (refine Below.setCell ?_ (by first | (simp; done) | (simp; omega)) _))⟩

end Go.Proofs.Ytdjiihcbaedmcaa
