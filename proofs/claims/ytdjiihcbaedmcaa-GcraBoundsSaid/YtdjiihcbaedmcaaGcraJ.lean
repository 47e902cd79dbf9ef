/- Contracts of gcra's check, Decide, Left, Idle, rate's Within and Once. -/
import Derived.Test.YtdjiihcbaedmcaaGcraB
namespace Go.Proofs.Ytdjiihcbaedmcaa
open Go.RowKit

/-- The error of what is right, or not. -/
def codeI (b : Bool) : Int := if b then 0 else 1

theorem all_getD {ts : List Int} (h : ∀ i, i < ts.length → tickB (ts.getD i 0) = true) : ts.all tickB = true := by
  rw [List.all_eq_true]
  intro x hx
  obtain ⟨i, hi, rfl⟩ := List.getElem_of_mem hx
  have := h i hi
  rwa [List.getD_eq_getElem?_getD, List.getElem?_eq_getElem hi] at this

theorem all_getD_no {ts : List Int} {i : Nat} (hi : i < ts.length) (h : tickB (ts.getD i 0) = false) : ts.all tickB = false := by
  rw [Bool.eq_false_iff]
  intro hh
  rw [List.all_eq_true] at hh
  have := hh (ts.getD i 0) (by rw [List.getD_eq_getElem?_getD, List.getElem?_eq_getElem hi]; exact List.getElem_mem hi)
  rw [h] at this
  simp at this

set_option maxHeartbeats 1000000 in
theorem gcheck_any (T tau : Int) (ts : List Int) (b c : Nat) (w : World) (hlen : ts.length ≤ 10) (hc : ∀ i, i < ts.length → w.cell? ⟨b, i, none⟩ = some (.int .i64 (ts.getD i 0))) :
    Calls Try.prog 56 #[limV T tau, .slice (some ⟨b, 0, none⟩) ts.length c] w (IntRes w (codeI (ts.all tickB && limB T tau))) := by
  have Hc := Lib.hid hc
  have Hy := Lib.hid (fun h v => rcheck_yes T tau v h)
  have Hn := Lib.hid (fun h v => rcheck_no T tau v h)
  have Hall := Lib.hid (@all_getD ts)
  have Hno := Lib.hid (fun i => @all_getD_no ts i)
  clear hc
  generalize ts.all tickB = A at *
  generalize limB T tau = L at *
  unfold limV at *
  go_enter Try.func56, Try.ntmps56
  go_wp2
  go_loopw [6, 9] (fun _ i wr => ∃ k : Nat, i = .int .i64 k ∧ k ≤ ts.length ∧ (∀ j, j < k → tickB (ts.getD j 0) = true) ∧ wr = w.alloc (.cells #[.int .i64 T, .int .i64 tau] 39)) (fun _ i _ => ts.length - (intOf i).toNat)
  case atStart => exact ⟨0, rfl, Nat.zero_le _, fun j hj => absurd hj (by omega), rfl⟩
  case round =>
    obtain ⟨k, rfl, hk, hall, rfl⟩ := hrel
    have Hk := Lib.hid hall
    clear hall
    by_cases hkl : k < ts.length
    · have hcell := Hc.out k hkl
      have hlt := World.block_lt_of_cell? _ _ hcell
      have hcell' : (w.alloc (.cells #[.int .i64 T, .int .i64 tau] 39)).cell? ⟨b, k, none⟩ = some (.int .i64 (ts.getD k 0)) := by rw [World.cell?_alloc_past _ _ _ hlt]; exact hcell
      have Hkk : Hid (tickB (ts.getD k 0) = true → ∀ j, j < k + 1 → tickB (ts.getD j 0) = true) := fun h j hj => by
        by_cases e : j = k
        · subst e; exact h
        · exact Hk.out j (by omega)
      have Hnn := Lib.hid (fun h => Hno.out k hkl h)
      clear hcell hlt
      generalize ts.getD k 0 = x at *
      cases hx : tickB x with
      | true =>
        go_wp2_with (go_at_call 18; (with_reducible refine (form_any _ _).mono ?_); rintro e w' ⟨rfl, rfl⟩)
        go_roundw
        case rel => exact ⟨k + 1, by go_num, by omega, Hkk.out hx, by first | rfl | trivial⟩
        case measure => simp [intOf]; omega
      | false =>
        have hA := Hnn.out hx
        subst hA
        go_wp2_with (go_at_call 18; (with_reducible refine (form_any _ _).mono ?_); rintro e w' ⟨rfl, rfl⟩)
        go_ret
        exact ⟨rfl, (Below.refl _ _).alloc (Nat.le_refl _) _⟩
    · obtain rfl : k = ts.length := by omega
      have hA := Hall.out Hk.out
      subst hA
      cases L with
      | true =>
        go_wp2_with fail
        refine (Hy.out (by first | rfl | trivial) _).mono ?_
        rintro e w1 ⟨rfl, hb⟩
        have Hb := Lib.hid (below_past hb)
        clear hb
        go_wp2
        go_ret
        exact ⟨rfl, Hb.out⟩
      | false =>
        go_wp2_with fail
        refine (Hn.out (by first | rfl | trivial) _).mono ?_
        rintro e w1 ⟨rfl, hb⟩
        have Hb := Lib.hid (below_past hb)
        clear hb
        go_wp2
        go_ret
        exact ⟨rfl, Hb.out⟩

set_option maxHeartbeats 1000000 in
theorem within_yes (T tau span : Int) (w : World) (h : limB T tau = true) (hs : tickB span = true) :
    Calls Try.prog 48 #[limV T tau, .int .i64 span] w (TwoRes w ((span + tau) / T + 1) 0) := by
  obtain ⟨h1, h2, h3⟩ := limB_yes h
  have a0 := (tickB_yes h1).1; have a1 := (tickB_yes h1).2
  have b0 := (tickB_yes h3).1; have b1 := (tickB_yes h3).2
  have s0 := (tickB_yes hs).1; have s1 := (tickB_yes hs).2
  have hne : (T == 0) = false := beq_eq_false_iff_ne.2 (by omega)
  obtain ⟨q0, q1, _, _⟩ := div_tick (a := span + tau) (b := T) (by omega) (by omega)
  have Hy := Lib.hid (fun v => rcheck_yes T tau v h)
  clear h h1 h3
  unfold limV at *
  go_enter Try.func48, Try.ntmps48
  go_wp2_with fail
  refine (Hy.out _).mono ?_
  rintro e w1 ⟨rfl, hb⟩
  have hc0 := cell_later hb (a := ⟨w.heap.size, 0, none⟩) (v := .int .i64 T) (by simp [go_sem])
  have hc1 := cell_later hb (a := ⟨w.heap.size, 1, none⟩) (v := .int .i64 tau) (by simp [go_sem])
  have Hb := Lib.hid (below_past hb)
  clear hb
  go_wp2_with (go_at_call 18; (with_reducible refine (form_any _ _).mono ?_); rintro e w' ⟨rfl, rfl⟩)
  go_ret2
  exact ⟨rfl, Hb.out⟩

set_option maxHeartbeats 1000000 in
theorem within_no (T tau span : Int) (w : World) (h : (limB T tau && tickB span) = false) :
    Calls Try.prog 48 #[limV T tau, .int .i64 span] w (TwoRes w 0 1) := by
  cases hl : limB T tau with
  | false =>
    have Hn := Lib.hid (fun v => rcheck_no T tau v hl)
    clear h hl
    unfold limV at *
    go_enter Try.func48, Try.ntmps48
    go_wp2_with fail
    refine (Hn.out _).mono ?_
    rintro e w1 ⟨rfl, hb⟩
    have Hb := Lib.hid (below_past hb)
    clear hb
    go_wp2
    go_ret2
    exact ⟨rfl, Hb.out⟩
  | true =>
    have hs : tickB span = false := by simpa [hl] using h
    have Hn := Lib.hid (fun v => rcheck_yes T tau v hl)
    clear h hl
    unfold limV at *
    go_enter Try.func48, Try.ntmps48
    go_wp2_with fail
    refine (Hn.out _).mono ?_
    rintro e w1 ⟨rfl, hb⟩
    have Hb := Lib.hid (below_past hb)
    clear hb
    go_wp2_with (go_at_call 18; (with_reducible refine (form_any _ _).mono ?_); rintro e w' ⟨rfl, rfl⟩)
    go_ret2
    exact ⟨rfl, Hb.out⟩

theorem once_of (T tau k f : Int) (w : World) (hw : ∀ v, Calls Try.prog 48 #[limV T tau, .int .i64 0] v (TwoRes v k f)) :
    Calls Try.prog 44 #[limV T tau] w (TwoRes w k f) := by
  have Hw := Lib.hid hw
  clear hw
  unfold limV at *
  go_enter Try.func44, Try.ntmps44
  go_wp2_with fail
  refine (Hw.out _).mono ?_
  rintro e w1 ⟨rfl, hb⟩
  have Hb := Lib.hid (below_past hb)
  clear hb
  go_wp2
  go_ret2
  exact ⟨rfl, Hb.out⟩

end Go.Proofs.Ytdjiihcbaedmcaa
