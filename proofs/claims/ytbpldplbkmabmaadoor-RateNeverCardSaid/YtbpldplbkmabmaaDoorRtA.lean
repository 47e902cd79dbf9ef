/- Contracts of rate.Check, Within, Once, Real and spigotref04.Check, DocReal. (Check, Within, Once and ref Check: as in seat A's GcraA, GcraJ, GcraN.) -/
import Derived.Test.YtbpldplbkmabmaaDoorRlO
import Derived.Test.YtbpldplbkmabmaaDoorRlP
import Derived.Test.YtbpldplbkmabmaaDoorRlJ
import Derived.IntWalk
namespace Go.Proofs.YtbpldplbkmabmaaDoor
open Go.RowKit

/-- A limit as a value. -/
def limV (T tau : Int) : Value := .agg #[.int .i64 T, .int .i64 tau]
/-- Is it a limit? -/
def limB (T tau : Int) : Bool := tickB T && decide (1 ≤ T) && tickB tau

theorem limB_yes {T tau : Int} (h : limB T tau = true) : tickB T = true ∧ 1 ≤ T ∧ tickB tau = true := by
  simp only [limB, Bool.and_eq_true, decide_eq_true_eq] at h
  exact ⟨h.1.1, h.1.2, h.2⟩

set_option maxHeartbeats 400000 in
theorem rcheck_yes (T tau : Int) (w : World) (h : limB T tau = true) :
    Calls Tryd.prog 20 #[limV T tau] w (IntRes w 0) := by
  obtain ⟨h1, h2, h3⟩ := limB_yes h
  clear h
  unfold limV
  go_enter Tryd.func20, Tryd.ntmps20
  go_wp2_with (go_at_call 63; (with_reducible refine (form_any _ _).mono ?_); rintro e w' ⟨rfl, rfl⟩)
  go_ret
  exact ⟨rfl, (Below.refl _ _).alloc (Nat.le_refl _) _⟩

set_option maxHeartbeats 400000 in
theorem rcheck_no (T tau : Int) (w : World) (h : limB T tau = false) :
    Calls Tryd.prog 20 #[limV T tau] w (IntRes w 1) := by
  unfold limV
  cases h1 : tickB T with
  | false =>
    clear h
    go_enter Tryd.func20, Tryd.ntmps20
    go_wp2_with (go_at_call 63; (with_reducible refine (form_any _ _).mono ?_); rintro e w' ⟨rfl, rfl⟩)
    go_ret
    exact ⟨rfl, (Below.refl _ _).alloc (Nat.le_refl _) _⟩
  | true =>
    by_cases h2 : 1 ≤ T
    · have h3 : tickB tau = false := by simpa [limB, h1, h2] using h
      clear h
      go_enter Tryd.func20, Tryd.ntmps20
      go_wp2_with (go_at_call 63; (with_reducible refine (form_any _ _).mono ?_); rintro e w' ⟨rfl, rfl⟩)
      go_ret
      exact ⟨rfl, (Below.refl _ _).alloc (Nat.le_refl _) _⟩
    · have h3 : T < 1 := by omega
      clear h h2
      go_enter Tryd.func20, Tryd.ntmps20
      go_wp2_with (go_at_call 63; (with_reducible refine (form_any _ _).mono ?_); rintro e w' ⟨rfl, rfl⟩)
      go_ret
      exact ⟨rfl, (Below.refl _ _).alloc (Nat.le_refl _) _⟩

/-- The error of what is right, or not. -/
def codeI (b : Bool) : Int := if b then 0 else 1

set_option maxHeartbeats 1000000 in
theorem within_yes (T tau span : Int) (w : World) (h : limB T tau = true) (hs : tickB span = true) :
    Calls Tryd.prog 23 #[limV T tau, .int .i64 span] w (TwoRes w ((span + tau) / T + 1) 0) := by
  obtain ⟨h1, h2, h3⟩ := limB_yes h
  have a0 := (tickB_yes h1).1; have a1 := (tickB_yes h1).2
  have b0 := (tickB_yes h3).1; have b1 := (tickB_yes h3).2
  have s0 := (tickB_yes hs).1; have s1 := (tickB_yes hs).2
  have hne : (T == 0) = false := beq_eq_false_iff_ne.2 (by omega)
  obtain ⟨q0, q1, _, _⟩ := div_tick (a := span + tau) (b := T) (by omega) (by omega)
  have Hy := Lib.hid (fun v => rcheck_yes T tau v h)
  clear h h1 h3
  unfold limV at *
  go_enter Tryd.func23, Tryd.ntmps23
  go_wp2_with fail
  refine (Hy.out _).mono ?_
  rintro e w1 ⟨rfl, hb⟩
  have hc0 := cell_later hb (a := ⟨w.heap.size, 0, none⟩) (v := .int .i64 T) (by simp [go_sem])
  have hc1 := cell_later hb (a := ⟨w.heap.size, 1, none⟩) (v := .int .i64 tau) (by simp [go_sem])
  have Hb := Lib.hid (below_past hb)
  clear hb
  go_wp2_with (go_at_call 63; (with_reducible refine (form_any _ _).mono ?_); rintro e w' ⟨rfl, rfl⟩)
  go_ret2
  exact ⟨rfl, Hb.out⟩

set_option maxHeartbeats 1000000 in
theorem within_no (T tau span : Int) (w : World) (h : (limB T tau && tickB span) = false) :
    Calls Tryd.prog 23 #[limV T tau, .int .i64 span] w (TwoRes w 0 1) := by
  cases hl : limB T tau with
  | false =>
    have Hn := Lib.hid (fun v => rcheck_no T tau v hl)
    clear h hl
    unfold limV at *
    go_enter Tryd.func23, Tryd.ntmps23
    go_wp2_with fail
    refine (Hn.out _).mono ?_
    rintro e w1 ⟨rfl, hb⟩
    have Hb := Lib.hid (below_past hb)
    clear hb
    go_wp2
    go_ret2
    exact ⟨rfl, Hb.out⟩
  | true =>
    have hs : tickB span = false := by simpa [hl] using h
    have Hn := Lib.hid (fun v => rcheck_yes T tau v hl)
    clear h hl
    unfold limV at *
    go_enter Tryd.func23, Tryd.ntmps23
    go_wp2_with fail
    refine (Hn.out _).mono ?_
    rintro e w1 ⟨rfl, hb⟩
    have Hb := Lib.hid (below_past hb)
    clear hb
    go_wp2_with (go_at_call 63; (with_reducible refine (form_any _ _).mono ?_); rintro e w' ⟨rfl, rfl⟩)
    go_ret2
    exact ⟨rfl, Hb.out⟩

theorem once_of (T tau k f : Int) (w : World) (hw : ∀ v, Calls Tryd.prog 23 #[limV T tau, .int .i64 0] v (TwoRes v k f)) :
    Calls Tryd.prog 22 #[limV T tau] w (TwoRes w k f) := by
  have Hw := Lib.hid hw
  clear hw
  unfold limV at *
  go_enter Tryd.func22, Tryd.ntmps22
  go_wp2_with fail
  refine (Hw.out _).mono ?_
  rintro e w1 ⟨rfl, hb⟩
  have Hb := Lib.hid (below_past hb)
  clear hb
  go_wp2
  go_ret2
  exact ⟨rfl, Hb.out⟩

theorem rcheck4_any (T tau : Int) (w : World) :
    Calls Tryd.prog 27 #[limV T tau] w (IntRes w (codeI (limB T tau))) := by
  have Hl : Hid (limB T tau = (tickB T && decide (1 ≤ T) && tickB tau)) := rfl
  generalize limB T tau = L at *
  unfold limV
  by_cases h2 : 1 ≤ T
  · have h2d : decide (1 ≤ T) = true := decide_eq_true h2
    cases h1 : tickB T with
    | false =>
      have hL : L = false := by rw [Hl.out, h1]; rfl
      subst hL
      have hcode : codeI false = 1 := rfl
      clear Hl
      go_enter Tryd.func27, Tryd.ntmps27
      go_wp2_with (go_at_call 45; (with_reducible refine (rform_any _ _).mono ?_); rintro e w' ⟨rfl, rfl⟩)
      go_ret
      exact ⟨rfl, (Below.refl _ _).alloc (Nat.le_refl _) _⟩
    | true =>
      cases h3 : tickB tau with
      | false =>
        have hL : L = false := by rw [Hl.out, h3]; simp
        subst hL
        have hcode : codeI false = 1 := rfl
        clear Hl
        go_enter Tryd.func27, Tryd.ntmps27
        go_wp2_with (go_at_call 45; (with_reducible refine (rform_any _ _).mono ?_); rintro e w' ⟨rfl, rfl⟩)
        go_ret
        exact ⟨rfl, (Below.refl _ _).alloc (Nat.le_refl _) _⟩
      | true =>
        have hL : L = true := by rw [Hl.out, h1, h2d, h3]; rfl
        subst hL
        have hcode : codeI true = 0 := rfl
        clear Hl
        go_enter Tryd.func27, Tryd.ntmps27
        go_wp2_with (go_at_call 45; (with_reducible refine (rform_any _ _).mono ?_); rintro e w' ⟨rfl, rfl⟩)
        go_ret
        exact ⟨rfl, (Below.refl _ _).alloc (Nat.le_refl _) _⟩
  · have h3 : T < 1 := by omega
    have hL : L = false := by rw [Hl.out, decide_eq_false h2]; simp
    subst hL
    have hcode : codeI false = 1 := rfl
    clear Hl h2
    go_enter Tryd.func27, Tryd.ntmps27
    go_wp2_with (go_at_call 45; (with_reducible refine (rform_any _ _).mono ?_); rintro e w' ⟨rfl, rfl⟩)
    go_ret
    exact ⟨rfl, (Below.refl _ _).alloc (Nat.le_refl _) _⟩

theorem mx_cell {w w1 : World} {T tau : Int} {t : TypeId} (hb : Below (w.alloc (.cells #[.int .i64 T, .int .i64 tau] t)).heap.size (w.alloc (.cells #[.int .i64 T, .int .i64 tau] t)) w1) :
    w1.cell? ⟨w.heap.size, 0, none⟩ = some (.int .i64 T) ∧ w1.cell? ⟨w.heap.size, 1, none⟩ = some (.int .i64 tau) :=
  ⟨cell_later hb (a := ⟨w.heap.size, 0, none⟩) (v := .int .i64 T) (by simp [go_sem]), cell_later hb (a := ⟨w.heap.size, 1, none⟩) (v := .int .i64 tau) (by simp [go_sem])⟩

/-- May a limit and a clock's step be told as a rate? -/
def realB (T tau hz : Int) : Bool := limB T tau && decide (1 ≤ hz ∧ hz ≤ 1000000000)

set_option maxHeartbeats 1000000 in
theorem real_yes (T tau hz : Int) (x f : Nat) (w : World) (h : limB T tau = true) (h1 : 1 ≤ hz) (h2 : hz ≤ 1000000000)
    (k : ∀ v, Calls Tryd.prog 41 #[.int .i64 hz, .int .i64 T] v (FE v x f)) :
    Calls Tryd.prog 24 #[limV T tau, .int .i64 hz] w (FE w x f) := by
  have Hy := Lib.hid (fun v => rcheck_yes T tau v h)
  unfold FE at k
  have K := Lib.hid k
  clear h k
  unfold limV FE at *
  go_enter Tryd.func24, Tryd.ntmps24
  go_wp2_with fail
  refine (Hy.out _).mono ?_
  rintro e w1 ⟨rfl, hb⟩
  obtain ⟨hc0, hc1⟩ := mx_cell hb
  have Hb := Lib.hid (below_past hb)
  clear hb
  go_wp2_with fail
  with_reducible refine (K.out _).mono ?_
  rintro e w2 ⟨rfl, hb2⟩
  have Hb2 := Lib.hid (Hb.out.trans (hb2.mono Hb.out.size))
  clear hb2
  go_wp2
  exact bodyPost_ret (v := .tuple #[.float .f64 x, .int .i64 f]) (by simp [results, Tryd.results24, go_sem]) rfl ⟨rfl, Hb2.out⟩

set_option maxHeartbeats 1000000 in
theorem real_no (T tau hz : Int) (w : World) (h : realB T tau hz = false) :
    Calls Tryd.prog 24 #[limV T tau, .int .i64 hz] w (FE w 0 1) := by
  unfold FE
  cases hl : limB T tau with
  | false =>
    have Hn := Lib.hid (fun v => rcheck_no T tau v hl)
    clear h hl
    unfold limV at *
    go_enter Tryd.func24, Tryd.ntmps24
    go_wp2_with fail
    refine (Hn.out _).mono ?_
    rintro e w1 ⟨rfl, hb⟩
    have Hb := Lib.hid (below_past hb)
    clear hb
    go_wp2
    exact bodyPost_ret (v := .tuple #[.float .f64 0, .int .i64 1]) (by simp [results, Tryd.results24, go_sem]) rfl ⟨rfl, Hb.out⟩
  | true =>
    have hs : hz < 1 ∨ 1000000000 < hz := by
      unfold realB at h
      rw [hl, Bool.true_and] at h
      have := of_decide_eq_false h
      omega
    have Hn := Lib.hid (fun v => rcheck_yes T tau v hl)
    clear h hl
    unfold limV at *
    by_cases hz1 : hz < 1
    · clear hs
      go_enter Tryd.func24, Tryd.ntmps24
      go_wp2_with fail
      refine (Hn.out _).mono ?_
      rintro e w1 ⟨rfl, hb⟩
      have Hb := Lib.hid (below_past hb)
      clear hb
      go_wp2
      exact bodyPost_ret (v := .tuple #[.float .f64 0, .int .i64 1]) (by simp [results, Tryd.results24, go_sem]) rfl ⟨rfl, Hb.out⟩
    · have hz2 : 1000000000 < hz := by omega
      clear hs
      go_enter Tryd.func24, Tryd.ntmps24
      go_wp2_with fail
      refine (Hn.out _).mono ?_
      rintro e w1 ⟨rfl, hb⟩
      have Hb := Lib.hid (below_past hb)
      clear hb
      go_wp2
      exact bodyPost_ret (v := .tuple #[.float .f64 0, .int .i64 1]) (by simp [results, Tryd.results24, go_sem]) rfl ⟨rfl, Hb.out⟩
end Go.Proofs.YtbpldplbkmabmaaDoor
