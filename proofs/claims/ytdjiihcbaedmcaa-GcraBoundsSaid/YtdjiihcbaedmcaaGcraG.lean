/- The contract of spigotref05.Granted. -/
import Derived.Test.YtdjiihcbaedmcaaGcraB
import Derived.Test.YtdjiihcbaedmcaaNatV
import Derived.Deep.RegionHeld3
namespace Go.Proofs.Ytdjiihcbaedmcaa
open Go.RowKit

set_option maxHeartbeats 400000 in
theorem rword_any (t : Int) (k : Nat) (w : World) (hk : t = (k : Int)) (h : k ≤ 4611686018427387903) :
    Calls Try.prog 76 #[.int .i64 t] w (NatRes w k) := by
  subst hk
  have Hk := Lib.hid (show k < 18446744073709551616 by omega)
  go_enter Try.func76, Try.ntmps76
  go_wp2_with (go_at_call 50; (with_reducible refine (word_any _ _ Hk.out).mono ?_); rintro e w' ⟨v, rfl, hv, hb⟩)
  have Hv := Lib.hid hv; have Hb := Lib.hid hb
  clear hv hb
  go_wp2
  go_ret
  exact ⟨v, rfl, Hv.out, Hb.out⟩

theorem grant_nat {T tau tat now n : Nat} (h : limB T tau = true) (ht : tickB tat = true) (hn : tickB now = true) (h0 : 1 ≤ n) :
    decG T tau tat now n = decide (max tat now + (n - 1) * T ≤ now + tau ∧ max tat now + n * T ≤ 4611686018427387903) := by
  unfold decG
  refine decide_eq_decide.2 ?_
  rw [left_grant h ht hn (by omega)]
  unfold grantP
  have e1 : ((n : Int) - 1) * T = (((n - 1) * T : Nat) : Int) := by rw [Int.natCast_mul, Int.natCast_sub h0]; rfl
  have e2 : (n : Int) * T = ((n * T : Nat) : Int) := by rw [Int.natCast_mul]
  rw [e1, e2]
  omega

def BoolRes (w : World) (b : Bool) (e : Ending) (w' : World) : Prop := e = .returned (.bool b) ∧ Below w.heap.size w w'

theorem ret_b {a b : Bool} (h : a = b) : Ending.returned (.bool a) = .returned (.bool b) := by rw [h]

theorem gs_later {w0 W W' : World} {B : Nat} {a b vb va : Value} {base x : Nat} (h : W.cell? ⟨B, 0, none⟩ = some a ∧ W.cell? ⟨B, 1, none⟩ = some b ∧ Below w0.heap.size w0 W ∧ IsN W vb base ∧ IsN W va x) (hb : Below W.heap.size W W') :
    W'.cell? ⟨B, 0, none⟩ = some a ∧ W'.cell? ⟨B, 1, none⟩ = some b ∧ Below w0.heap.size w0 W' ∧ IsN W' vb base ∧ IsN W' va x :=
  ⟨cell_later hb h.1, cell_later hb h.2.1, h.2.2.1.trans (hb.mono h.2.2.1.size), h.2.2.2.1.later hb, h.2.2.2.2.later hb⟩

theorem gs_draw {w0 W : World} {B : Nat} {a b vb va : Value} {base x : Nat} (h : W.cell? ⟨B, 0, none⟩ = some a ∧ W.cell? ⟨B, 1, none⟩ = some b ∧ Below w0.heap.size w0 W ∧ IsN W vb base ∧ IsN W va x) :
    W.drew.cell? ⟨B, 0, none⟩ = some a ∧ W.drew.cell? ⟨B, 1, none⟩ = some b ∧ Below w0.heap.size w0 W.drew ∧ IsN W.drew vb base ∧ IsN W.drew va x :=
  gs_later h (Below.refl _ _).drew

theorem two_ticks {a b : Nat} (ha : a ≤ 4611686018427387903) (hb : b ≤ 4611686018427387903) : a * b < 2 ^ 100000 :=
  pow_up (m := 128) (n := 100000) (Nat.lt_of_le_of_lt (Nat.mul_le_mul ha hb) (by decide)) (by omega)

set_option maxHeartbeats 4000000 in
set_option maxRecDepth 100000 in
theorem rgranted_any (T tau tat now n : Int) (w : World) (h : limB T tau = true) (ht : tickB tat = true) (hnow : tickB now = true) (hn : tickB n = true) :
    Calls Try.prog 73 #[limV T tau, .int .i64 tat, .int .i64 now, .int .i64 n] w (BoolRes w (decG T tau tat now n)) := by
  by_cases h0 : n = 0
  · subst h0
    have hG : decG T tau tat now 0 = true := decide_eq_true ((left_grant h ht hnow (by omega)).2 (Or.inl rfl))
    rw [hG]
    clear hG h ht hnow hn
    unfold limV
    go_enter Try.func73, Try.ntmps73
    go_wp2
    go_ret
    exact ⟨rfl, (Below.refl _ _).alloc (Nat.le_refl _) _⟩
  · obtain ⟨hT, hT1, htau⟩ := limB_yes h
    obtain ⟨T, rfl, hTm⟩ := tick_nat hT
    obtain ⟨tau, rfl, htaum⟩ := tick_nat htau
    obtain ⟨tat, rfl, htatm⟩ := tick_nat ht
    obtain ⟨now, rfl, hnowm⟩ := tick_nat hnow
    obtain ⟨n, rfl, hnm⟩ := tick_nat hn
    have hn1 : 1 ≤ n := by omega
    have Hg := Lib.hid (grant_nat h ht hnow hn1)
    have hne : ((n : Int) == 0) = false := beq_eq_false_iff_ne.2 (by omega)
    clear hT htau h ht hnow hn h0
    generalize decG T tau tat now n = G at *
    obtain ⟨base, hbase⟩ : ∃ b : Nat, b = max tat now := ⟨_, rfl⟩
    have hbm : base ≤ 4611686018427387903 := by omega
    have e1 : IntKind.i64.wrap ((n : Int) - 1) = (n : Int) - 1 := IntWalk.i64_in _ (by omega)
    have en1 : (n : Int) - 1 = ((n - 1 : Nat) : Int) := by omega
    have En1 := Lib.hid en1
    clear en1
    unfold limV
    by_cases hm : tat < now
    · obtain rfl : base = now := by omega
      have hm' : (tat : Int) < (base : Int) := by omega
      clear hbase
      go_enter Try.func73, Try.ntmps73
      go_wp2_with fail
      refine (rword_any _ base _ rfl hbm).mono ?_
      rintro e w1 ⟨vb, rfl, hvb, hb1⟩
      have Hs0 := Lib.hid (gs_draw ⟨cell_later hb1 (a := ⟨w.heap.size, 0, none⟩) (v := .int .i64 T) (by simp [go_sem]), cell_later hb1 (a := ⟨w.heap.size, 1, none⟩) (v := .int .i64 tau) (by simp [go_sem]), below_past hb1, hvb, hvb⟩)
      clear hb1 hvb
      go_wp2_with fail
      go_region_held3 (fun w' => w'.cell? ⟨w.heap.size, 0, none⟩ = some (.int .i64 T) ∧ w'.cell? ⟨w.heap.size, 1, none⟩ = some (.int .i64 tau) ∧ Below w.heap.size w w' ∧ IsN w' vb base ∧ IsN w' vb base) (first | exact Hs0.out | exact Hs2.out | exact Hs3.out | exact Hs4.out | exact Hs5.out) (first | (go_at_call 76; (with_reducible refine (rword_any _ (n - 1) _ En1.out (by omega)).mono ?_); rintro e w2 ⟨v1, rfl, hv1, hb0⟩; have Hs2 := Lib.hid (gs_later Hs0.out hb0); have Hv1 := Lib.hid hv1; clear hv1 hb0) | (go_at_call 76; (with_reducible refine (rword_any _ T _ rfl hTm).mono ?_); rintro e w3 ⟨v2, rfl, hv2, hb0⟩; have Hs3 := Lib.hid (gs_later Hs2.out hb0); have Hv2 := Lib.hid (And.intro (Hv1.out.later hb0) hv2); clear hv2 hb0) | (go_at_call 66; (with_reducible refine (times_any _ _ (n - 1) T _ Hv2.out.1 Hv2.out.2 (small_pow (by omega)) (small_pow (by omega))).mono ?_); rintro e w4 ⟨v3, rfl, hv3, hb0⟩; have Hs4 := Lib.hid (gs_later Hs3.out hb0); have Hv3 := Lib.hid hv3; clear hv3 hb0) | (go_at_call 60; (with_reducible refine (plus_any _ _ base ((n - 1) * T) _ Hs4.out.2.2.2.1 Hv3.out (small_pow (by omega)) (two_ticks (by omega) (by omega))).mono ?_); rintro e w5 ⟨v4, rfl, hv4, hb0⟩; have Hs5 := Lib.hid (gs_later Hs4.out hb0); have Hv4 := Lib.hid hv4; clear hv4 hb0))
      have Hr0 := Lib.hid (gs_draw ⟨Hs5.out.1, Hs5.out.2.1, Hs5.out.2.2.1, Hs5.out.2.2.2.1, Hv4.out⟩)
      clear Hs0 Hs2 Hs3 Hs4 Hs5 Hv1 Hv2 Hv3 Hv4
      go_wp2_with fail
      go_region_held3 (fun w' => w'.cell? ⟨w.heap.size, 0, none⟩ = some (.int .i64 T) ∧ w'.cell? ⟨w.heap.size, 1, none⟩ = some (.int .i64 tau) ∧ Below w.heap.size w w' ∧ IsN w' vb base ∧ IsN w' v4 (base + (n - 1) * T)) (first | exact Hr0.out | exact Hs2.out | exact Hs3.out | exact Hs4.out | exact Hs5.out) (first | (go_at_call 76; (with_reducible refine (rword_any _ n _ rfl hnm).mono ?_); rintro e w2 ⟨v1, rfl, hv1, hb0⟩; have Hs2 := Lib.hid (gs_later Hr0.out hb0); have Hv1 := Lib.hid hv1; clear hv1 hb0) | (go_at_call 76; (with_reducible refine (rword_any _ T _ rfl hTm).mono ?_); rintro e w3 ⟨v2, rfl, hv2, hb0⟩; have Hs3 := Lib.hid (gs_later Hs2.out hb0); have Hv2 := Lib.hid (And.intro (Hv1.out.later hb0) hv2); clear hv2 hb0) | (go_at_call 66; (with_reducible refine (times_any _ _ n T _ Hv2.out.1 Hv2.out.2 (small_pow (by omega)) (small_pow (by omega))).mono ?_); rintro e w4 ⟨v3, rfl, hv3, hb0⟩; have Hs4 := Lib.hid (gs_later Hs3.out hb0); have Hv3 := Lib.hid hv3; clear hv3 hb0) | (go_at_call 60; (with_reducible refine (plus_any _ _ base (n * T) _ Hs4.out.2.2.2.1 Hv3.out (small_pow (by omega)) (two_ticks (by omega) (by omega))).mono ?_); rintro e w6 ⟨v5, rfl, hv5, hb0⟩; have Hs5 := Lib.hid (gs_later Hs4.out hb0); have Hv5 := Lib.hid hv5; clear hv5 hb0))
      have Hq0 := Lib.hid (gs_draw ⟨Hs5.out.1, Hs5.out.2.1, Hs5.out.2.2.1, Hs5.out.2.2.2.2, Hv5.out⟩)
      clear Hr0 Hs2 Hs3 Hs4 Hs5 Hv1 Hv2 Hv3 Hv5
      by_cases hc1 : base + (n - 1) * T ≤ base + tau
      · have hcm := cmpI_le.2 hc1
        have Hc1 := Lib.hid hc1
        have hcmp := fun va vc w ha hc => compare_any va vc (base + (n - 1) * T) (base + tau) w ha hc
        have Hcmp := Lib.hid hcmp
        clear hcmp
        generalize cmpI (base + (n - 1) * T) (base + tau) = cm at *
        clear hc1
        have Hcmp2 := Lib.hid (fun va vc w ha hc => compare_any va vc (base + n * T) 4611686018427387903 w ha hc)
        generalize hcm2 : cmpI (base + n * T) 4611686018427387903 = cm2 at *
        have Hcm2 := Lib.hid hcm2
        clear hcm2
        go_wp2_with fail
        go_region_held3 (fun w' => w'.cell? ⟨w.heap.size, 0, none⟩ = some (.int .i64 T) ∧ w'.cell? ⟨w.heap.size, 1, none⟩ = some (.int .i64 tau) ∧ Below w.heap.size w w' ∧ IsN w' v4 (base + (n - 1) * T) ∧ IsN w' v5 (base + n * T)) (first | exact Hq0.out | exact Hs2.out | exact Hs3.out | exact Hs4.out | exact Hs5.out | exact Hs6.out | exact Hs7.out) (first | (go_at_call 76; (with_reducible refine (rword_any _ base _ rfl hnowm).mono ?_); rintro e w2 ⟨v1, rfl, hv1, hb0⟩; have Hs2 := Lib.hid (gs_later Hq0.out hb0); have Hv1 := Lib.hid hv1; clear hv1 hb0) | (go_at_call 76; (with_reducible refine (rword_any _ tau _ rfl htaum).mono ?_); rintro e w3 ⟨v2, rfl, hv2, hb0⟩; have Hs3 := Lib.hid (gs_later Hs2.out hb0); have Hv2 := Lib.hid (And.intro (Hv1.out.later hb0) hv2); clear hv2 hb0) | (go_at_call 60; (with_reducible refine (plus_any _ _ base tau _ Hv2.out.1 Hv2.out.2 (small_pow (by omega)) (small_pow (by omega))).mono ?_); rintro e w4 ⟨v3, rfl, hv3, hb0⟩; have Hs4 := Lib.hid (gs_later Hs3.out hb0); have Hv3 := Lib.hid hv3; clear hv3 hb0) | (go_at_call 69; (with_reducible refine (Hcmp.out _ _ _ Hs4.out.2.2.2.1 Hv3.out).mono ?_); rintro e w5 ⟨rfl, nd1, rfl⟩; have Hs5 := Lib.hid (gs_later Hs4.out (below_drewN (Below.refl _ _) nd1))) | (go_at_call 76; (with_reducible refine (rword_any _ 4611686018427387903 _ (by omega) (by omega)).mono ?_); rintro e w7 ⟨v6, rfl, hv6, hb0⟩; have Hs6 := Lib.hid (gs_later Hs5.out hb0); have Hv6 := Lib.hid hv6; clear hv6 hb0) | (go_at_call 69; (with_reducible refine (Hcmp2.out _ _ _ Hs6.out.2.2.2.2 Hv6.out).mono ?_); rintro e w8 ⟨rfl, nd2, rfl⟩; have Hs7 := Lib.hid (gs_later Hs6.out (below_drewN (Below.refl _ _) nd2))))
        all_goals go_wp2
        all_goals go_ret
        all_goals exact ⟨ret_b (by rw [Hg.out, ← Hcm2.out]; have := Hc1.out; exact decide_eq_decide.2 (by rw [cmpI_le]; omega)), Hs7.out.2.2.1⟩
      · have hcm := cmpI_gt (Nat.lt_of_not_le hc1)
        have Hc1 := Lib.hid hc1
        have hcmp := fun va vc w ha hc => compare_any va vc (base + (n - 1) * T) (base + tau) w ha hc
        rw [hcm] at hcmp
        have Hcmp := Lib.hid hcmp
        clear hcmp hcm
        clear hc1
        go_wp2_with fail
        have hcq := Hq0.out.2.1
        first | (go_region_with (first | (go_at_call 76; (with_reducible refine (rword_any _ base _ rfl hnowm).mono ?_); rintro e w2 ⟨v1, rfl, hv1, hb0⟩; have Hs2 := Lib.hid (gs_later Hq0.out hb0); have Hv1 := Lib.hid hv1; clear hv1 hb0; have hc2 := Hs2.out.2.1) | (go_at_call 76; (with_reducible refine (rword_any _ tau _ rfl htaum).mono ?_); rintro e w3 ⟨v2, rfl, hv2, hb0⟩; have Hs3 := Lib.hid (gs_later Hs2.out hb0); have Hv2 := Lib.hid (And.intro (Hv1.out.later hb0) hv2); clear hv2 hb0; have hc3 := Hs3.out.2.1) | (go_at_call 60; (with_reducible refine (plus_any _ _ base tau _ Hv2.out.1 Hv2.out.2 (small_pow (by omega)) (small_pow (by omega))).mono ?_); rintro e w4 ⟨v3, rfl, hv3, hb0⟩; have Hs4 := Lib.hid (gs_later Hs3.out hb0); have Hv3 := Lib.hid hv3; clear hv3 hb0; have hc4 := Hs4.out.2.1) | (go_at_call 69; (with_reducible refine (Hcmp.out _ _ _ Hs4.out.2.2.2.1 Hv3.out).mono ?_); rintro e w5 ⟨rfl, nd1, rfl⟩; have Hs5 := Lib.hid (gs_later Hs4.out (below_drewN (Below.refl _ _) nd1)); have hc5 := Hs5.out.2.1))) | fail
        all_goals go_wp2
        all_goals go_ret
        all_goals exact ⟨ret_b (by rw [Hg.out]; have := Hc1.out; exact (decide_eq_false (by omega)).symm), Hs5.out.2.2.1⟩
    · obtain rfl : base = tat := by omega
      have hm' : ¬ (base : Int) < (now : Int) := by omega
      clear hbase
      go_enter Try.func73, Try.ntmps73
      go_wp2_with fail
      refine (rword_any _ base _ rfl hbm).mono ?_
      rintro e w1 ⟨vb, rfl, hvb, hb1⟩
      have Hs0 := Lib.hid (gs_draw ⟨cell_later hb1 (a := ⟨w.heap.size, 0, none⟩) (v := .int .i64 T) (by simp [go_sem]), cell_later hb1 (a := ⟨w.heap.size, 1, none⟩) (v := .int .i64 tau) (by simp [go_sem]), below_past hb1, hvb, hvb⟩)
      clear hb1 hvb
      go_wp2_with fail
      go_region_held3 (fun w' => w'.cell? ⟨w.heap.size, 0, none⟩ = some (.int .i64 T) ∧ w'.cell? ⟨w.heap.size, 1, none⟩ = some (.int .i64 tau) ∧ Below w.heap.size w w' ∧ IsN w' vb base ∧ IsN w' vb base) (first | exact Hs0.out | exact Hs2.out | exact Hs3.out | exact Hs4.out | exact Hs5.out) (first | (go_at_call 76; (with_reducible refine (rword_any _ (n - 1) _ En1.out (by omega)).mono ?_); rintro e w2 ⟨v1, rfl, hv1, hb0⟩; have Hs2 := Lib.hid (gs_later Hs0.out hb0); have Hv1 := Lib.hid hv1; clear hv1 hb0) | (go_at_call 76; (with_reducible refine (rword_any _ T _ rfl hTm).mono ?_); rintro e w3 ⟨v2, rfl, hv2, hb0⟩; have Hs3 := Lib.hid (gs_later Hs2.out hb0); have Hv2 := Lib.hid (And.intro (Hv1.out.later hb0) hv2); clear hv2 hb0) | (go_at_call 66; (with_reducible refine (times_any _ _ (n - 1) T _ Hv2.out.1 Hv2.out.2 (small_pow (by omega)) (small_pow (by omega))).mono ?_); rintro e w4 ⟨v3, rfl, hv3, hb0⟩; have Hs4 := Lib.hid (gs_later Hs3.out hb0); have Hv3 := Lib.hid hv3; clear hv3 hb0) | (go_at_call 60; (with_reducible refine (plus_any _ _ base ((n - 1) * T) _ Hs4.out.2.2.2.1 Hv3.out (small_pow (by omega)) (two_ticks (by omega) (by omega))).mono ?_); rintro e w5 ⟨v4, rfl, hv4, hb0⟩; have Hs5 := Lib.hid (gs_later Hs4.out hb0); have Hv4 := Lib.hid hv4; clear hv4 hb0))
      have Hr0 := Lib.hid (gs_draw ⟨Hs5.out.1, Hs5.out.2.1, Hs5.out.2.2.1, Hs5.out.2.2.2.1, Hv4.out⟩)
      clear Hs0 Hs2 Hs3 Hs4 Hs5 Hv1 Hv2 Hv3 Hv4
      go_wp2_with fail
      go_region_held3 (fun w' => w'.cell? ⟨w.heap.size, 0, none⟩ = some (.int .i64 T) ∧ w'.cell? ⟨w.heap.size, 1, none⟩ = some (.int .i64 tau) ∧ Below w.heap.size w w' ∧ IsN w' vb base ∧ IsN w' v4 (base + (n - 1) * T)) (first | exact Hr0.out | exact Hs2.out | exact Hs3.out | exact Hs4.out | exact Hs5.out) (first | (go_at_call 76; (with_reducible refine (rword_any _ n _ rfl hnm).mono ?_); rintro e w2 ⟨v1, rfl, hv1, hb0⟩; have Hs2 := Lib.hid (gs_later Hr0.out hb0); have Hv1 := Lib.hid hv1; clear hv1 hb0) | (go_at_call 76; (with_reducible refine (rword_any _ T _ rfl hTm).mono ?_); rintro e w3 ⟨v2, rfl, hv2, hb0⟩; have Hs3 := Lib.hid (gs_later Hs2.out hb0); have Hv2 := Lib.hid (And.intro (Hv1.out.later hb0) hv2); clear hv2 hb0) | (go_at_call 66; (with_reducible refine (times_any _ _ n T _ Hv2.out.1 Hv2.out.2 (small_pow (by omega)) (small_pow (by omega))).mono ?_); rintro e w4 ⟨v3, rfl, hv3, hb0⟩; have Hs4 := Lib.hid (gs_later Hs3.out hb0); have Hv3 := Lib.hid hv3; clear hv3 hb0) | (go_at_call 60; (with_reducible refine (plus_any _ _ base (n * T) _ Hs4.out.2.2.2.1 Hv3.out (small_pow (by omega)) (two_ticks (by omega) (by omega))).mono ?_); rintro e w6 ⟨v5, rfl, hv5, hb0⟩; have Hs5 := Lib.hid (gs_later Hs4.out hb0); have Hv5 := Lib.hid hv5; clear hv5 hb0))
      have Hq0 := Lib.hid (gs_draw ⟨Hs5.out.1, Hs5.out.2.1, Hs5.out.2.2.1, Hs5.out.2.2.2.2, Hv5.out⟩)
      clear Hr0 Hs2 Hs3 Hs4 Hs5 Hv1 Hv2 Hv3 Hv5
      by_cases hc1 : base + (n - 1) * T ≤ now + tau
      · have hcm := cmpI_le.2 hc1
        have Hc1 := Lib.hid hc1
        have hcmp := fun va vc w ha hc => compare_any va vc (base + (n - 1) * T) (now + tau) w ha hc
        have Hcmp := Lib.hid hcmp
        clear hcmp
        generalize cmpI (base + (n - 1) * T) (now + tau) = cm at *
        clear hc1
        have Hcmp2 := Lib.hid (fun va vc w ha hc => compare_any va vc (base + n * T) 4611686018427387903 w ha hc)
        generalize hcm2 : cmpI (base + n * T) 4611686018427387903 = cm2 at *
        have Hcm2 := Lib.hid hcm2
        clear hcm2
        go_wp2_with fail
        go_region_held3 (fun w' => w'.cell? ⟨w.heap.size, 0, none⟩ = some (.int .i64 T) ∧ w'.cell? ⟨w.heap.size, 1, none⟩ = some (.int .i64 tau) ∧ Below w.heap.size w w' ∧ IsN w' v4 (base + (n - 1) * T) ∧ IsN w' v5 (base + n * T)) (first | exact Hq0.out | exact Hs2.out | exact Hs3.out | exact Hs4.out | exact Hs5.out | exact Hs6.out | exact Hs7.out) (first | (go_at_call 76; (with_reducible refine (rword_any _ now _ rfl hnowm).mono ?_); rintro e w2 ⟨v1, rfl, hv1, hb0⟩; have Hs2 := Lib.hid (gs_later Hq0.out hb0); have Hv1 := Lib.hid hv1; clear hv1 hb0) | (go_at_call 76; (with_reducible refine (rword_any _ tau _ rfl htaum).mono ?_); rintro e w3 ⟨v2, rfl, hv2, hb0⟩; have Hs3 := Lib.hid (gs_later Hs2.out hb0); have Hv2 := Lib.hid (And.intro (Hv1.out.later hb0) hv2); clear hv2 hb0) | (go_at_call 60; (with_reducible refine (plus_any _ _ now tau _ Hv2.out.1 Hv2.out.2 (small_pow (by omega)) (small_pow (by omega))).mono ?_); rintro e w4 ⟨v3, rfl, hv3, hb0⟩; have Hs4 := Lib.hid (gs_later Hs3.out hb0); have Hv3 := Lib.hid hv3; clear hv3 hb0) | (go_at_call 69; (with_reducible refine (Hcmp.out _ _ _ Hs4.out.2.2.2.1 Hv3.out).mono ?_); rintro e w5 ⟨rfl, nd1, rfl⟩; have Hs5 := Lib.hid (gs_later Hs4.out (below_drewN (Below.refl _ _) nd1))) | (go_at_call 76; (with_reducible refine (rword_any _ 4611686018427387903 _ (by omega) (by omega)).mono ?_); rintro e w7 ⟨v6, rfl, hv6, hb0⟩; have Hs6 := Lib.hid (gs_later Hs5.out hb0); have Hv6 := Lib.hid hv6; clear hv6 hb0) | (go_at_call 69; (with_reducible refine (Hcmp2.out _ _ _ Hs6.out.2.2.2.2 Hv6.out).mono ?_); rintro e w8 ⟨rfl, nd2, rfl⟩; have Hs7 := Lib.hid (gs_later Hs6.out (below_drewN (Below.refl _ _) nd2))))
        all_goals go_wp2
        all_goals go_ret
        all_goals exact ⟨ret_b (by rw [Hg.out, ← Hcm2.out]; have := Hc1.out; exact decide_eq_decide.2 (by rw [cmpI_le]; omega)), Hs7.out.2.2.1⟩
      · have hcm := cmpI_gt (Nat.lt_of_not_le hc1)
        have Hc1 := Lib.hid hc1
        have hcmp := fun va vc w ha hc => compare_any va vc (base + (n - 1) * T) (now + tau) w ha hc
        rw [hcm] at hcmp
        have Hcmp := Lib.hid hcmp
        clear hcmp hcm
        clear hc1
        go_wp2_with fail
        have hcq := Hq0.out.2.1
        first | (go_region_with (first | (go_at_call 76; (with_reducible refine (rword_any _ now _ rfl hnowm).mono ?_); rintro e w2 ⟨v1, rfl, hv1, hb0⟩; have Hs2 := Lib.hid (gs_later Hq0.out hb0); have Hv1 := Lib.hid hv1; clear hv1 hb0; have hc2 := Hs2.out.2.1) | (go_at_call 76; (with_reducible refine (rword_any _ tau _ rfl htaum).mono ?_); rintro e w3 ⟨v2, rfl, hv2, hb0⟩; have Hs3 := Lib.hid (gs_later Hs2.out hb0); have Hv2 := Lib.hid (And.intro (Hv1.out.later hb0) hv2); clear hv2 hb0; have hc3 := Hs3.out.2.1) | (go_at_call 60; (with_reducible refine (plus_any _ _ now tau _ Hv2.out.1 Hv2.out.2 (small_pow (by omega)) (small_pow (by omega))).mono ?_); rintro e w4 ⟨v3, rfl, hv3, hb0⟩; have Hs4 := Lib.hid (gs_later Hs3.out hb0); have Hv3 := Lib.hid hv3; clear hv3 hb0; have hc4 := Hs4.out.2.1) | (go_at_call 69; (with_reducible refine (Hcmp.out _ _ _ Hs4.out.2.2.2.1 Hv3.out).mono ?_); rintro e w5 ⟨rfl, nd1, rfl⟩; have Hs5 := Lib.hid (gs_later Hs4.out (below_drewN (Below.refl _ _) nd1)); have hc5 := Hs5.out.2.1))) | fail
        all_goals go_wp2
        all_goals go_ret
        all_goals exact ⟨ret_b (by rw [Hg.out]; have := Hc1.out; exact (decide_eq_false (by omega)).symm), Hs5.out.2.2.1⟩

end Go.Proofs.Ytdjiihcbaedmcaa
