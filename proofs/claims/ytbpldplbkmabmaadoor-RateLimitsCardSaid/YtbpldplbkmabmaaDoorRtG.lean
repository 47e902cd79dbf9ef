/- Contracts of spigotref04.Within and DocWithin. -/
import Derived.Test.YtbpldplbkmabmaaDoorRtF
import Derived.Deep.RegionHeld3
namespace Go.Proofs.YtbpldplbkmabmaaDoor
open Go.RowKit
set_option linter.unusedVariables false

theorem ws_later {w w1 w2 : World} {T tau : Int} (h : w1.cell? ⟨w.heap.size, 0, none⟩ = some (.int .i64 T) ∧ w1.cell? ⟨w.heap.size, 1, none⟩ = some (.int .i64 tau) ∧ Below w.heap.size w w1) (hb : Below w1.heap.size w1 w2) :
    w2.cell? ⟨w.heap.size, 0, none⟩ = some (.int .i64 T) ∧ w2.cell? ⟨w.heap.size, 1, none⟩ = some (.int .i64 tau) ∧ Below w.heap.size w w2 :=
  ⟨cell_later hb h.1, cell_later hb h.2.1, h.2.2.trans (hb.mono h.2.2.size)⟩

set_option maxRecDepth 100000 in
set_option maxHeartbeats 4000000 in
theorem rwithin4 (T tau span : Nat) (w : World) (h1 : 1 ≤ T) (h2 : T ≤ 4611686018427387903) (h3 : tau ≤ 4611686018427387903) (h4 : span ≤ 4611686018427387903) :
    Calls Tryd.prog 66 #[limV T tau, .int .i64 span] w (IntRes w (((span + tau) / T + 1 : Nat) : Int)) := by
  have Kw1 := Lib.hid (fun v => word_any span v (by omega))
  have Kw2 := Lib.hid (fun v => word_any tau v (by omega))
  have Kw3 := Lib.hid (fun v => word_any T v (by omega))
  have Kw4 := Lib.hid (fun v => word_any 1 v (by omega))
  have hq : (span + tau) / T ≤ span + tau := Nat.div_le_self _ _
  have Kp := Lib.hid (fun u u' v (h : IsN v u span) (h' : IsN v u' tau) => rplus_pw u u' span tau v h h' (lt_pw (lt_big span 64 (by omega) (by decide)) (by decide)) (lt_pw (lt_big tau 64 (by omega) (by decide)) (by decide)))
  have Kq := Lib.hid (fun u u' v (h : IsN v u (span + tau)) (h' : IsN v u' T) => rquo_pw u u' (span + tau) T v h h' (by omega) (lt_pw (lt_big (span + tau) 64 (by omega) (by decide)) (by decide)) (lt_pw (lt_big T 64 (by omega) (by decide)) (by decide)))
  have Kp1 := Lib.hid (fun u u' v (h : IsN v u ((span + tau) / T)) (h' : IsN v u' 1) => rplus_pw u u' ((span + tau) / T) 1 v h h' (lt_pw (lt_big ((span + tau) / T) 64 (by omega) (by decide)) (by decide)) (one_lt_pw (by decide)))
  have Kf := Lib.hid (fun u v (h : IsN v u ((span + tau) / T + 1)) => fits_any u ((span + tau) / T + 1) v h)
  have u1 : IntKind.u64.wrap (span : Int) = (span : Int) := by rw [IntKind.wrap_u64]; omega
  have u2 : IntKind.u64.wrap (tau : Int) = (tau : Int) := by rw [IntKind.wrap_u64]; omega
  have u3 : IntKind.u64.wrap (T : Int) = (T : Int) := by rw [IntKind.wrap_u64]; omega
  unfold limV
  go_enter Tryd.func66, Tryd.ntmps66
  have hs0 : (w.alloc (.cells #[.int .i64 T, .int .i64 tau] 28)).drew.cell? ⟨w.heap.size, 0, none⟩ = some (.int .i64 T) ∧ (w.alloc (.cells #[.int .i64 T, .int .i64 tau] 28)).drew.cell? ⟨w.heap.size, 1, none⟩ = some (.int .i64 tau) ∧ Below w.heap.size w (w.alloc (.cells #[.int .i64 T, .int .i64 tau] 28)).drew :=
    ws_later ⟨by simp [go_sem], by simp [go_sem], (Below.refl _ _).alloc (Nat.le_refl _) _⟩ (Below.refl _ _).drew
  have Hs0 := Lib.hid hs0
  clear hs0
  have hs9 : (w.alloc (.cells #[.int .i64 T, .int .i64 tau] 28)).cell? ⟨w.heap.size, 0, none⟩ = some (.int .i64 T) ∧ (w.alloc (.cells #[.int .i64 T, .int .i64 tau] 28)).cell? ⟨w.heap.size, 1, none⟩ = some (.int .i64 tau) ∧ Below w.heap.size w (w.alloc (.cells #[.int .i64 T, .int .i64 tau] 28)) :=
    ⟨by simp [go_sem], by simp [go_sem], (Below.refl _ _).alloc (Nat.le_refl _) _⟩
  have Hs9 := Lib.hid hs9
  clear hs9
  go_wp2_with fail
  go_region_held3 (fun w' => w'.cell? ⟨w.heap.size, 0, none⟩ = some (.int .i64 T) ∧ w'.cell? ⟨w.heap.size, 1, none⟩ = some (.int .i64 tau) ∧ Below w.heap.size w w') (first | exact Hs0.out | exact Hs9.out | exact Hs1.out | exact Hs2.out | exact Hs3.out | exact Hs4.out | exact Hs5.out) (first | (go_at_call 59; (with_reducible refine (Kw1.out _).mono ?_); rintro e w1 ⟨v1, rfl, hv1, hb0⟩; have Hs1 := Lib.hid (by first | exact ws_later Hs0.out hb0 | exact ws_later Hs9.out hb0); have Hv1 := Lib.hid hv1; clear hv1 hb0) | (go_at_call 59; (with_reducible refine (Kw2.out _).mono ?_); rintro e w2 ⟨v2, rfl, hv2, hb0⟩; have Hs2 := Lib.hid (ws_later Hs1.out hb0); have Hv2 := Lib.hid (And.intro (Hv1.out.later hb0) hv2); clear hv2 hb0) | (go_at_call 92; (with_reducible refine (Kp.out _ _ _ Hv2.out.1 Hv2.out.2).mono ?_); rintro e w3 ⟨v3, rfl, hv3, hb0⟩; have Hs3 := Lib.hid (ws_later Hs2.out hb0); have Hv3 := Lib.hid hv3; clear hv3 hb0) | (go_at_call 59; (with_reducible refine (Kw3.out _).mono ?_); rintro e w4 ⟨v4, rfl, hv4, hb0⟩; have Hs4 := Lib.hid (ws_later Hs3.out hb0); have Hv4 := Lib.hid (And.intro (Hv3.out.later hb0) hv4); clear hv4 hb0) | (go_at_call 90; (with_reducible refine (Kq.out _ _ _ Hv4.out.1 Hv4.out.2).mono ?_); rintro e w5 ⟨v5, v6, rfl, hv5, hv6, hb0⟩; have Hs5 := Lib.hid (ws_later Hs4.out hb0); have Hv5 := Lib.hid hv5; clear hv5 hv6 hb0))
  go_wp2_with fail
  refine (Kw4.out _).mono ?_
  rintro e w6 ⟨v7, rfl, hv7, hb6⟩
  have Hv6 := Lib.hid (And.intro (Hv5.out.later hb6) hv7)
  have Hb6 := Lib.hid (Hs5.out.2.2.trans (hb6.mono Hs5.out.2.2.size))
  clear hv7 hb6
  go_wp2_with fail
  refine (Kp1.out _ _ _ Hv6.out.1 Hv6.out.2).mono ?_
  rintro e w7 ⟨v8, rfl, hv8, hb7⟩
  have Hv8 := Lib.hid hv8
  have Hb7 := Lib.hid (Hb6.out.trans (hb7.mono Hb6.out.size))
  clear hv8 hb7
  go_wp2_with fail
  refine (Kf.out _ _ Hv8.out).mono ?_
  rintro e w8 ⟨x, rfl, hx, hx2, nd, rfl⟩
  have hxn := hx (by omega)
  subst hxn
  have hn1 : (span + tau) / T + 1 ≤ 9223372036854775807 := by omega
  have Hb8 := Lib.hid (below_drewN Hb7.out nd)
  generalize (span + tau) / T + 1 = n at *
  clear hx hx2 Hs0 Hs9 Hs1 Hs2 Hs3 Hs4 Hs5 Hv1 Hv2 Hv3 Hv4 Hv5 Hv6 Hv8
  go_wp2
  go_ret
  exact ⟨rfl, Hb8.out⟩

set_option maxHeartbeats 1000000 in
theorem docwithin_yes (T tau span : Int) (w : World) (h : limB T tau = true) (hs : tickB span = true) :
    Calls Tryd.prog 26 #[limV T tau, .int .i64 span] w (TwoRes w ((span + tau) / T + 1) 0) := by
  obtain ⟨h1, h2, h3⟩ := limB_yes h
  obtain ⟨a0, a1⟩ := tickB_yes h1
  obtain ⟨b0, b1⟩ := tickB_yes h3
  obtain ⟨s0, s1⟩ := tickB_yes hs
  have kc := fun v => rcheck4_any T tau v
  rw [h, show codeI true = 0 from rfl] at kc
  have kf := fun v => rform_any span v
  rw [hs] at kf
  have kw : ∀ v, Calls Tryd.prog 66 #[limV T tau, .int .i64 span] v (IntRes v ((span + tau) / T + 1)) := by
    obtain ⟨t, rfl⟩ := Int.eq_ofNat_of_zero_le a0
    obtain ⟨u, rfl⟩ := Int.eq_ofNat_of_zero_le b0
    obtain ⟨s, rfl⟩ := Int.eq_ofNat_of_zero_le s0
    exact fun v => rwithin4 t u s v (by omega) (by omega) (by omega) (by omega)
  have Hy := Lib.hid kc; have Hf := Lib.hid kf; have Hw := Lib.hid kw
  clear h h1 h2 h3 kc kf kw hs a0 a1 b0 b1 s0 s1
  generalize (span + tau) / T + 1 = q at *
  unfold limV TwoRes at *
  go_enter Tryd.func26, Tryd.ntmps26
  go_wp2_with (first | (go_at_call 27; (refine (Hy.out _).mono ?_); rintro e w1 ⟨rfl, hb⟩; obtain ⟨hc0, hc1⟩ := mx_cell hb; have Hb := Lib.hid (below_past hb); clear hb) | (go_at_call 45; (with_reducible refine (Hf.out _).mono ?_); rintro e w' ⟨rfl, rfl⟩) | (go_at_call 66; (refine (Hw.out _).mono ?_); rintro e w2 ⟨rfl, hb2⟩; have Hb2 := Lib.hid (Hb.out.trans (hb2.mono Hb.out.size)); clear hb2))
  go_ret2
  exact ⟨rfl, Hb2.out⟩

set_option maxHeartbeats 1000000 in
theorem docwithin_no (T tau span : Int) (w : World) (h : (limB T tau && tickB span) = false) :
    Calls Tryd.prog 26 #[limV T tau, .int .i64 span] w (TwoRes w 0 1) := by
  have kc := fun v => rcheck4_any T tau v
  have kf := fun v => rform_any span v
  have c0 : codeI false = 1 := rfl
  have c1 : codeI true = 0 := rfl
  have Hf := Lib.hid kf
  clear kf
  generalize limB T tau = L at *
  generalize tickB span = S at *
  unfold limV TwoRes at *
  cases L
  · rw [c0] at kc
    have Hy := Lib.hid kc
    clear kc c0 c1 h
    go_enter Tryd.func26, Tryd.ntmps26
    go_wp2_with (first | (go_at_call 27; (refine (Hy.out _).mono ?_); rintro e w1 ⟨rfl, hb⟩; have Hb := Lib.hid (below_past hb); clear hb) | (go_at_call 45; (with_reducible refine (Hf.out _).mono ?_); rintro e w' ⟨rfl, rfl⟩))
    go_ret2
    exact ⟨rfl, Hb.out⟩
  · cases S
    · rw [c1] at kc
      have Hy := Lib.hid kc
      clear kc c0 c1 h
      go_enter Tryd.func26, Tryd.ntmps26
      go_wp2_with (first | (go_at_call 27; (refine (Hy.out _).mono ?_); rintro e w1 ⟨rfl, hb⟩; have Hb := Lib.hid (below_past hb); clear hb) | (go_at_call 45; (with_reducible refine (Hf.out _).mono ?_); rintro e w' ⟨rfl, rfl⟩))
      go_ret2
      exact ⟨rfl, Hb.out⟩
    · simp at h
end Go.Proofs.YtbpldplbkmabmaaDoor
