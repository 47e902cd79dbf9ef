/- Contracts of rate.Check, Within, Once and of gcra's inner functions. -/
import Derived.Test.YtdjiihcbaedmcaaTickP
import Derived.Test.YtdjiihcbaedmcaaNatQ
import Derived.Test.YtdjiihcbaedmcaaTickD
import Derived.IntWalk
namespace Go.Proofs.Ytdjiihcbaedmcaa
open Go.RowKit

/-- A limit as a value. -/
def limV (T tau : Int) : Value := .agg #[.int .i64 T, .int .i64 tau]
/-- Is it a limit? -/
def limB (T tau : Int) : Bool := tickB T && decide (1 ≤ T) && tickB tau

theorem limB_yes {T tau : Int} (h : limB T tau = true) : tickB T = true ∧ 1 ≤ T ∧ tickB tau = true := by
  simp only [limB, Bool.and_eq_true, decide_eq_true_eq] at h
  exact ⟨h.1.1, h.1.2, h.2⟩

set_option maxHeartbeats 400000 in
theorem rcheck_yes (T tau : Int) (w : World) (h : limB T tau = true) :
    Calls Try.prog 63 #[limV T tau] w (IntRes w 0) := by
  obtain ⟨h1, h2, h3⟩ := limB_yes h
  clear h
  unfold limV
  go_enter Try.func63, Try.ntmps63
  go_wp2_with (go_at_call 18; (with_reducible refine (form_any _ _).mono ?_); rintro e w' ⟨rfl, rfl⟩)
  go_ret
  exact ⟨rfl, (Below.refl _ _).alloc (Nat.le_refl _) _⟩

set_option maxHeartbeats 400000 in
theorem rcheck_no (T tau : Int) (w : World) (h : limB T tau = false) :
    Calls Try.prog 63 #[limV T tau] w (IntRes w 1) := by
  unfold limV
  cases h1 : tickB T with
  | false =>
    clear h
    go_enter Try.func63, Try.ntmps63
    go_wp2_with (go_at_call 18; (with_reducible refine (form_any _ _).mono ?_); rintro e w' ⟨rfl, rfl⟩)
    go_ret
    exact ⟨rfl, (Below.refl _ _).alloc (Nat.le_refl _) _⟩
  | true =>
    by_cases h2 : 1 ≤ T
    · have h3 : tickB tau = false := by simpa [limB, h1, h2] using h
      clear h
      go_enter Try.func63, Try.ntmps63
      go_wp2_with (go_at_call 18; (with_reducible refine (form_any _ _).mono ?_); rintro e w' ⟨rfl, rfl⟩)
      go_ret
      exact ⟨rfl, (Below.refl _ _).alloc (Nat.le_refl _) _⟩
    · have h3 : T < 1 := by omega
      clear h h2
      go_enter Try.func63, Try.ntmps63
      go_wp2_with (go_at_call 18; (with_reducible refine (form_any _ _).mono ?_); rintro e w' ⟨rfl, rfl⟩)
      go_ret
      exact ⟨rfl, (Below.refl _ _).alloc (Nat.le_refl _) _⟩

/-- The greatest cost that would be granted, told by the greater of tat and now. -/
def leftB (T tau base now : Int) : Int := if tau < base - now then 0 else min ((tau - (base - now)) / T + 1) ((4611686018427387903 - base) / T)
def leftI (T tau tat now : Int) : Int := leftB T tau (max tat now) now

theorem ret_i {a b : Int} (h : a = b) : Ending.returned (.int .i64 a) = .returned (.int .i64 b) := by rw [h]

set_option maxHeartbeats 1000000 in
theorem gleft_any (T tau tat now : Int) (w : World) (h : limB T tau = true) (ht : tickB tat = true) (hn : tickB now = true) :
    Calls Try.prog 61 #[limV T tau, .int .i64 tat, .int .i64 now] w (IntRes w (leftI T tau tat now)) := by
  obtain ⟨h1, h2, h3⟩ := limB_yes h
  obtain ⟨a0, a1⟩ := tickB_yes h1
  obtain ⟨b0, b1⟩ := tickB_yes h3
  obtain ⟨c0, c1⟩ := tickB_yes ht
  obtain ⟨d0, d1⟩ := tickB_yes hn
  have hne : (T == 0) = false := beq_eq_false_iff_ne.2 (by omega)
  unfold limV
  clear h h1 h3 ht hn
  by_cases hm : tat < now
  · have e : leftI T tau tat now = min (tau / T + 1) ((4611686018427387903 - now) / T) := by
      unfold leftI leftB
      rw [show max tat now = now by omega, if_neg (by omega), show tau - (now - now) = tau by omega]
    rw [e]
    clear e
    have hd : ¬ tau < 0 := by omega
    obtain ⟨q10, q11, _, _⟩ := div_tick (a := tau) (b := T) (by omega) (by omega)
    obtain ⟨q20, q21, _, _⟩ := div_tick (a := 4611686018427387903 - now) (b := T) (by omega) (by omega)
    have e1 : wrap64 (tau / T + 1) = tau / T + 1 := IntWalk.wrap64_in _ (by omega)
    go_enter Try.func61, Try.ntmps61
    go_wp2
    go_quiet (fail)
    go_wp2
    all_goals
      go_ret
      exact ⟨ret_i (by omega), below_drewN ((Below.refl _ _).alloc (Nat.le_refl _) _) _⟩
  · by_cases hd : tau < tat - now
    · have e : leftI T tau tat now = 0 := by
        unfold leftI leftB
        rw [show max tat now = tat by omega, if_pos hd]
      rw [e]
      clear e
      go_enter Try.func61, Try.ntmps61
      go_wp2
      go_ret
      exact ⟨rfl, (Below.refl _ _).alloc (Nat.le_refl _) _⟩
    · have e : leftI T tau tat now = min ((tau - (tat - now)) / T + 1) ((4611686018427387903 - tat) / T) := by
        unfold leftI leftB
        rw [show max tat now = tat by omega, if_neg hd]
      rw [e]
      clear e
      obtain ⟨q10, q11, _, _⟩ := div_tick (a := tau - (tat - now)) (b := T) (by omega) (by omega)
      obtain ⟨q20, q21, _, _⟩ := div_tick (a := 4611686018427387903 - tat) (b := T) (by omega) (by omega)
      have e1 : wrap64 ((tau - (tat - now)) / T + 1) = (tau - (tat - now)) / T + 1 := IntWalk.wrap64_in _ (by omega)
      have e2 : wrap64 (tau - (tat - now)) = tau - (tat - now) := IntWalk.wrap64_in _ (by omega)
      have e3 : 0 ≤ tau - (tat - now) := by omega
      go_enter Try.func61, Try.ntmps61
      go_wp2
      go_quiet (fail)
      go_wp2
      all_goals
        go_ret
        exact ⟨ret_i (by omega), below_drewN ((Below.refl _ _).alloc (Nat.le_refl _) _) _⟩

/-- n - 1 times T, if it is at most tau. -/
def aheadB (T tau n : Int) : Bool := decide ((n - 1) * T ≤ tau)
def AheadRes (w : World) (T tau n : Int) (e : Ending) (w' : World) : Prop := ∃ x : Int, e = .returned (.tuple #[.int .i64 x, .bool (aheadB T tau n)]) ∧ (aheadB T tau n = true → x = (n - 1) * T) ∧ Below w.heap.size w w'

set_option maxHeartbeats 1000000 in
theorem gahead_any (T tau n : Int) (w : World) (h : limB T tau = true) (hn : tickB n = true) (h0 : 1 ≤ n) :
    Calls Try.prog 75 #[limV T tau, .int .i64 n] w (AheadRes w T tau n) := by
  obtain ⟨h1, h2, h3⟩ := limB_yes h
  obtain ⟨a0, a1⟩ := tickB_yes h1
  obtain ⟨b0, b1⟩ := tickB_yes h3
  have c1 := (tickB_yes hn).2
  unfold limV
  clear h h1 h3 hn
  obtain ⟨x, hx⟩ : ∃ x : Nat, n - 1 = (x : Int) := ⟨(n - 1).toNat, by omega⟩
  obtain ⟨y, rfl⟩ := Int.eq_ofNat_of_zero_le a0
  obtain ⟨z, rfl⟩ := Int.eq_ofNat_of_zero_le b0
  have hx1 : x < 18446744073709551616 := by omega
  have hy1 : y < 18446744073709551616 := by omega
  have hp : (n - 1) * (y : Int) = ((x * y : Nat) : Int) := by rw [hx, Int.natCast_mul]
  have hc := mul64_any x y hx1 hy1
  have ha : aheadB (y : Int) (z : Int) n = decide (x * y ≤ z) := by unfold aheadB; rw [hp]; exact decide_eq_decide.2 (by omega)
  have Hp := Lib.hid hp; have Ha := Lib.hid ha
  clear hp ha hx1 hy1
  generalize x * y = p at *
  by_cases hl : p / 18446744073709551616 = 0
  · have e1 : p % 18446744073709551616 = p := by omega
    rw [hl, e1] at hc
    have Hc := Lib.hid hc
    have hp64 : p < 18446744073709551616 := by omega
    clear hc e1 hl
    by_cases hz : p ≤ z
    · have hz' : (p : Int) ≤ (z : Int) := by omega
      have Hz := Lib.hid hz
      have hp9 : p ≤ 4611686018427387903 := by omega
      clear hz hp64
      go_enter Try.func75, Try.ntmps75
      go_wp2_with (go_at_call 52; (with_reducible refine (Hc.out _).mono ?_); rintro e w' ⟨rfl, rfl⟩)
      go_quiet (fail)
      go_wp2
      go_ret2
      exact ⟨(p : Int), by rw [Ha.out, decide_eq_true Hz.out]; rfl, fun _ => Hp.out.symm, below_drewN ((Below.refl _ _).alloc (Nat.le_refl _) _) _⟩
    · have hz' : ¬ (p : Int) ≤ (z : Int) := by omega
      have Hz := Lib.hid hz
      clear hz
      go_enter Try.func75, Try.ntmps75
      go_wp2_with (go_at_call 52; (with_reducible refine (Hc.out _).mono ?_); rintro e w' ⟨rfl, rfl⟩)
      go_quiet (fail)
      go_wp2
      go_ret2
      exact ⟨_, by rw [Ha.out, decide_eq_false Hz.out]; rfl, fun h => by rw [Ha.out, decide_eq_false Hz.out] at h; simp at h, below_drewN ((Below.refl _ _).alloc (Nat.le_refl _) _) _⟩
  · have Hz := Lib.hid (show ¬ p ≤ z by omega)
    have hb1 : ((p / 18446744073709551616 : Nat) : Int) ≠ 0 := by omega
    generalize p / 18446744073709551616 = hi at *
    generalize p % 18446744073709551616 = lo at *
    have hb2 : ((hi : Int) == 0) = false := beq_eq_false_iff_ne.2 hb1
    have Hc := Lib.hid hc
    clear hc hl hb1
    go_enter Try.func75, Try.ntmps75
    go_wp2_with (go_at_call 52; (with_reducible refine (Hc.out _).mono ?_); rintro e w' ⟨rfl, rfl⟩)
    go_quiet (fail)
    go_wp2
    go_ret2
    exact ⟨_, by rw [Ha.out, decide_eq_false Hz.out]; rfl, fun h => by rw [Ha.out, decide_eq_false Hz.out] at h; simp at h, below_drewN ((Below.refl _ _).alloc (Nat.le_refl _) _) _⟩

/-- The ticks till a cost that is denied now would be granted. -/
def waitI (T tau tat now n : Int) : Int :=
  if aheadB T tau n = false ∨ (4611686018427387903 - max tat now) / T < n then 4611686018427387903 else tat - now - (tau - (n - 1) * T)

set_option maxHeartbeats 1000000 in
theorem gwait_any (T tau tat now n : Int) (w : World) (h : limB T tau = true) (ht : tickB tat = true) (hnow : tickB now = true) (hn : tickB n = true) (h0 : 1 ≤ n) :
    Calls Try.prog 71 #[limV T tau, .int .i64 tat, .int .i64 now, .int .i64 n] w (IntRes w (waitI T tau tat now n)) := by
  obtain ⟨h1, h2, h3⟩ := limB_yes h
  have a0 := (tickB_yes h1).1; have a1 := (tickB_yes h1).2
  have b0 := (tickB_yes h3).1; have b1 := (tickB_yes h3).2
  have c0 := (tickB_yes ht).1; have c1 := (tickB_yes ht).2
  have d0 := (tickB_yes hnow).1; have d1 := (tickB_yes hnow).2
  have Hah := Lib.hid (fun v => gahead_any T tau n v h hn h0)
  have hne : (T == 0) = false := beq_eq_false_iff_ne.2 (by omega)
  have Hw : Hid (waitI T tau tat now n = if aheadB T tau n = false ∨ (4611686018427387903 - max tat now) / T < n then 4611686018427387903 else tat - now - (tau - (n - 1) * T)) := rfl
  have hle := decide_eq_true_iff (p := (n - 1) * T ≤ tau)
  have Hle : Hid (aheadB T tau n = true → 0 ≤ (n - 1) * T ∧ (n - 1) * T ≤ tau) := fun h => ⟨Int.mul_nonneg (by omega) a0, hle.1 h⟩
  clear hle
  generalize waitI T tau tat now n = W at *
  unfold limV at *
  cases ha : aheadB T tau n with
  | false =>
    have hW : W = 4611686018427387903 := by have := Hw.out; rw [ha] at this; simpa using this
    subst hW
    have Ha := Lib.hid ha
    clear ha Hw h h1 h3 ht hnow hn
    go_enter Try.func71, Try.ntmps71
    go_wp2_with fail
    refine (Hah.out _).mono ?_
    rintro e w1 ⟨x, rfl, hx, hb⟩
    rw [Ha.out]
    have Hb := Lib.hid hb
    have hcell0 : w1.cell? ⟨w.heap.size, 0, none⟩ = some (.int .i64 T) := cell_later hb (by simp [go_sem])
    have hcell1 : w1.cell? ⟨w.heap.size, 1, none⟩ = some (.int .i64 tau) := cell_later hb (by simp [go_sem])
    clear hx hb
    go_wp2
    go_ret
    exact ⟨rfl, below_past Hb.out⟩
  | true =>
    have Ha := Lib.hid ha
    obtain ⟨m0, m1⟩ := Hle.out ha
    clear Hle
    by_cases hm : tat < now
    · have hmx : max tat now = now := by omega
      obtain ⟨q20, q21, _, _⟩ := div_tick (a := 4611686018427387903 - now) (b := T) (by omega) (by omega)
      have hW := Hw.out
      rw [hmx, ha] at hW
      have HW := Lib.hid hW
      clear ha Hw h h1 h3 ht hnow hn hmx hW
      generalize hgm : (n - 1) * T = m at *
      have Hm := Lib.hid hgm
      clear hgm
      by_cases hd : (4611686018427387903 - now) / T < n
      · go_enter Try.func71, Try.ntmps71
        go_wp2_with fail
        refine (Hah.out _).mono ?_
        rintro e w1 ⟨x, rfl, hx, hb⟩
        rw [Ha.out]
        have Hb := Lib.hid hb
        have hcell0 : w1.cell? ⟨w.heap.size, 0, none⟩ = some (.int .i64 T) := cell_later hb (by simp [go_sem])
        have hcell1 : w1.cell? ⟨w.heap.size, 1, none⟩ = some (.int .i64 tau) := cell_later hb (by simp [go_sem])
        clear hx hb
        go_wp2
        go_ret
        exact ⟨ret_i (by rw [HW.out, if_pos (Or.inr hd)]), below_past Hb.out⟩
      · go_enter Try.func71, Try.ntmps71
        go_wp2_with fail
        refine (Hah.out _).mono ?_
        rintro e w1 ⟨x, rfl, hx, hb⟩
        obtain rfl : x = m := (hx Ha.out).trans Hm.out
        rw [Ha.out]
        have Hb := Lib.hid hb
        have hcell0 : w1.cell? ⟨w.heap.size, 0, none⟩ = some (.int .i64 T) := cell_later hb (by simp [go_sem])
        have hcell1 : w1.cell? ⟨w.heap.size, 1, none⟩ = some (.int .i64 tau) := cell_later hb (by simp [go_sem])
        clear hx hb
        go_wp2
        go_ret
        exact ⟨ret_i (by rw [HW.out, if_neg (by simp; omega)]), below_past Hb.out⟩
    · have hmx : max tat now = tat := by omega
      obtain ⟨q20, q21, _, _⟩ := div_tick (a := 4611686018427387903 - tat) (b := T) (by omega) (by omega)
      have hW := Hw.out
      rw [hmx, ha] at hW
      have HW := Lib.hid hW
      clear ha Hw h h1 h3 ht hnow hn hmx hW
      generalize hgm : (n - 1) * T = m at *
      have Hm := Lib.hid hgm
      clear hgm
      by_cases hd : (4611686018427387903 - tat) / T < n
      · go_enter Try.func71, Try.ntmps71
        go_wp2_with fail
        refine (Hah.out _).mono ?_
        rintro e w1 ⟨x, rfl, hx, hb⟩
        rw [Ha.out]
        have Hb := Lib.hid hb
        have hcell0 : w1.cell? ⟨w.heap.size, 0, none⟩ = some (.int .i64 T) := cell_later hb (by simp [go_sem])
        have hcell1 : w1.cell? ⟨w.heap.size, 1, none⟩ = some (.int .i64 tau) := cell_later hb (by simp [go_sem])
        clear hx hb
        go_wp2
        go_ret
        exact ⟨ret_i (by rw [HW.out, if_pos (Or.inr hd)]), below_past Hb.out⟩
      · go_enter Try.func71, Try.ntmps71
        go_wp2_with fail
        refine (Hah.out _).mono ?_
        rintro e w1 ⟨x, rfl, hx, hb⟩
        obtain rfl : x = m := (hx Ha.out).trans Hm.out
        rw [Ha.out]
        have Hb := Lib.hid hb
        have hcell0 : w1.cell? ⟨w.heap.size, 0, none⟩ = some (.int .i64 T) := cell_later hb (by simp [go_sem])
        have hcell1 : w1.cell? ⟨w.heap.size, 1, none⟩ = some (.int .i64 tau) := cell_later hb (by simp [go_sem])
        clear hx hb
        go_wp2
        go_ret
        exact ⟨ret_i (by rw [HW.out, if_neg (by simp; omega)]), below_past Hb.out⟩

end Go.Proofs.Ytdjiihcbaedmcaa
