/- Contracts of the functions of package tick: what each call returns, for every input; the world is left as it was. -/
import Derived.Test.YtdjiihcbaedmcaaProg
import Derived.WalkKit
import Derived.WalkSpells
import Derived.WalkLawsBesides
import Derived.Lib.Hide
import Derived.Deep.QuietTactic
import Derived.BigQuiet
namespace Go.Proofs.Ytdjiihcbaedmcaa
open Go.RowKit

/-- Is it a tick? -/
def tickB (t : Int) : Bool := decide (0 ≤ t ∧ t ≤ 4611686018427387903)
theorem tickB_yes {t : Int} (h : tickB t = true) : 0 ≤ t ∧ t ≤ 4611686018427387903 := by simpa [tickB] using h
theorem tickB_no {t : Int} (h : tickB t = false) : ¬ (0 ≤ t ∧ t ≤ 4611686018427387903) := by simpa [tickB] using h
theorem tickB_mk {t : Int} (h0 : 0 ≤ t) (h1 : t ≤ 4611686018427387903) : tickB t = true := by simp [tickB, h0, h1]

set_option maxHeartbeats 400000 in
theorem form_any (t : Int) (w : World) :
    Calls Try.prog 18 #[.int .i64 t] w fun e w' => e = .returned (.bool (tickB t)) ∧ w = w' := by
  by_cases h0 : 0 ≤ t
  · by_cases h1 : t ≤ 4611686018427387903
    · have e : tickB t = true := tickB_mk h0 h1
      rw [e]
      go_enter Try.func18, Try.ntmps18
      go_wp2
      go_ret
      exact ⟨rfl, rfl⟩
    · have e : tickB t = false := by simp [tickB]; omega
      rw [e]
      go_enter Try.func18, Try.ntmps18
      go_wp2
      go_ret
      exact ⟨rfl, rfl⟩
  · have e : tickB t = false := by simp [tickB]; omega
    rw [e]
    have hd : decide (0 ≤ t) = false := by simpa using h0
    go_enter Try.func18, Try.ntmps18
    go_wp2
    go_ret
    exact ⟨rfl, rfl⟩

/-- The tick nearest to n. -/
def clampI (n : Int) : Int := if n < 0 then 0 else if n ≤ 4611686018427387903 then n else 4611686018427387903

set_option maxHeartbeats 400000 in
theorem clamp_any (n : Int) (w : World) :
    Calls Try.prog 20 #[.int .i64 n] w fun e w' => e = .returned (.int .i64 (clampI n)) ∧ w = w' := by
  by_cases h0 : n < 0
  · have e : clampI n = 0 := by simp [clampI, h0]
    rw [e]
    go_enter Try.func20, Try.ntmps20
    go_wp2
    go_ret
    exact ⟨rfl, rfl⟩
  · by_cases h1 : n ≤ 4611686018427387903
    · have e : clampI n = n := by simp [clampI, h0, h1]
      rw [e]
      go_enter Try.func20, Try.ntmps20
      go_wp2
      go_ret
      exact ⟨rfl, rfl⟩
    · have e : clampI n = 4611686018427387903 := by simp [clampI, h0, h1]
      rw [e]
      go_enter Try.func20, Try.ntmps20
      go_wp2
      go_ret
      exact ⟨rfl, rfl⟩

theorem clampI_tick (n : Int) : 0 ≤ clampI n ∧ clampI n ≤ 4611686018427387903 := by unfold clampI; split <;> (try split) <;> omega
theorem clampI_id {n : Int} (h0 : 0 ≤ n) (h1 : n ≤ 4611686018427387903) : clampI n = n := by unfold clampI; split <;> (try split) <;> omega

/-- The quotient rounded up. -/
def ceilI (a b : Int) : Int := if 0 < a % b then a / b + 1 else a / b

theorem div_tick {a b : Int} (a0 : 0 ≤ a) (h0 : 0 < b) : 0 ≤ a / b ∧ a / b ≤ a ∧ 0 ≤ a % b ∧ a % b < b :=
  ⟨Int.ediv_nonneg a0 (by omega), Int.ediv_le_self b a0, Int.emod_nonneg a (by omega), Int.emod_lt_of_pos a h0⟩

set_option maxHeartbeats 400000 in
theorem both_yes (a b : Int) (w : World) (ha : tickB a = true) (hb : tickB b = true) :
    Calls Try.prog 51 #[.int .i64 a, .int .i64 b] w fun e w' => e = .returned (.int .i64 0) ∧ w = w' := by
  go_enter Try.func51, Try.ntmps51
  go_wp2_with (go_at_call 18; with_reducible refine (form_any _ _).mono ?_; rintro e w' ⟨rfl, rfl⟩)
  go_ret
  exact ⟨rfl, rfl⟩

set_option maxHeartbeats 400000 in
theorem both_no (a b : Int) (w : World) (h : (tickB a && tickB b) = false) :
    Calls Try.prog 51 #[.int .i64 a, .int .i64 b] w fun e w' => e = .returned (.int .i64 1) ∧ w = w' := by
  cases ha : tickB a with
  | false =>
    clear h
    go_enter Try.func51, Try.ntmps51
    go_wp2_with (go_at_call 18; with_reducible refine (form_any _ _).mono ?_; rintro e w' ⟨rfl, rfl⟩)
    go_ret
    exact ⟨rfl, rfl⟩
  | true =>
    have hb : tickB b = false := by simpa [ha] using h
    clear h
    go_enter Try.func51, Try.ntmps51
    go_wp2_with (go_at_call 18; with_reducible refine (form_any _ _).mono ?_; rintro e w' ⟨rfl, rfl⟩)
    go_ret
    exact ⟨rfl, rfl⟩

set_option maxHeartbeats 400000 in
theorem add_yes (a b : Int) (w : World) (ha : tickB a = true) (hb : tickB b = true) :
    Calls Try.prog 22 #[.int .i64 a, .int .i64 b] w fun e w' => e = .returned (.tuple #[.int .i64 (clampI (a + b)), .int .i64 0]) ∧ w = w' := by
  have a0 := (tickB_yes ha).1; have a1 := (tickB_yes ha).2; have b0 := (tickB_yes hb).1; have b1 := (tickB_yes hb).2
  go_enter Try.func22, Try.ntmps22
  go_wp2_with (first | (go_at_call 51; with_reducible refine (both_yes _ _ _ ha hb).mono ?_; rintro e w' ⟨rfl, rfl⟩) | (go_at_call 20; with_reducible refine (clamp_any _ _).mono ?_; rintro e w' ⟨rfl, rfl⟩))
  go_ret2
  exact ⟨rfl, rfl⟩

set_option maxHeartbeats 400000 in
theorem add_no (a b : Int) (w : World) (h : (tickB a && tickB b) = false) :
    Calls Try.prog 22 #[.int .i64 a, .int .i64 b] w fun e w' => e = .returned (.tuple #[.int .i64 0, .int .i64 1]) ∧ w = w' := by
  have H := Lib.hid h; clear h
  go_enter Try.func22, Try.ntmps22
  go_wp2_with (first | (go_at_call 51; with_reducible refine (both_no _ _ _ H.out).mono ?_; rintro e w' ⟨rfl, rfl⟩))
  go_ret2
  exact ⟨rfl, rfl⟩

set_option maxHeartbeats 400000 in
theorem sub_yes (a b : Int) (w : World) (ha : tickB a = true) (hb : tickB b = true) :
    Calls Try.prog 23 #[.int .i64 a, .int .i64 b] w fun e w' => e = .returned (.tuple #[.int .i64 (clampI (a - b)), .int .i64 0]) ∧ w = w' := by
  have a0 := (tickB_yes ha).1; have a1 := (tickB_yes ha).2; have b0 := (tickB_yes hb).1; have b1 := (tickB_yes hb).2
  go_enter Try.func23, Try.ntmps23
  go_wp2_with (first | (go_at_call 51; with_reducible refine (both_yes _ _ _ ha hb).mono ?_; rintro e w' ⟨rfl, rfl⟩) | (go_at_call 20; with_reducible refine (clamp_any _ _).mono ?_; rintro e w' ⟨rfl, rfl⟩))
  go_ret2
  exact ⟨rfl, rfl⟩

set_option maxHeartbeats 400000 in
theorem sub_no (a b : Int) (w : World) (h : (tickB a && tickB b) = false) :
    Calls Try.prog 23 #[.int .i64 a, .int .i64 b] w fun e w' => e = .returned (.tuple #[.int .i64 0, .int .i64 1]) ∧ w = w' := by
  have H := Lib.hid h; clear h
  go_enter Try.func23, Try.ntmps23
  go_wp2_with (first | (go_at_call 51; with_reducible refine (both_no _ _ _ H.out).mono ?_; rintro e w' ⟨rfl, rfl⟩))
  go_ret2
  exact ⟨rfl, rfl⟩

end Go.Proofs.Ytdjiihcbaedmcaa
