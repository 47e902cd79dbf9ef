/- Contracts of the functions of package tick: what each call returns, for every input; the world is left as it was. -/
import Derived.Test.YtbpldplbkmabmaaDoorProg
import Derived.WalkKit
import Derived.WalkSpells
import Derived.WalkLawsBesides
import Derived.Lib.Hide
import Derived.Deep.QuietTactic
import Derived.BigQuiet
namespace Go.Proofs.YtbpldplbkmabmaaDoor
open Go.RowKit

/-- Is it a tick? -/
def tickB (t : Int) : Bool := decide (0 ≤ t ∧ t ≤ 4611686018427387903)
theorem tickB_yes {t : Int} (h : tickB t = true) : 0 ≤ t ∧ t ≤ 4611686018427387903 := by simpa [tickB] using h
theorem tickB_no {t : Int} (h : tickB t = false) : ¬ (0 ≤ t ∧ t ≤ 4611686018427387903) := by simpa [tickB] using h
theorem tickB_mk {t : Int} (h0 : 0 ≤ t) (h1 : t ≤ 4611686018427387903) : tickB t = true := by simp [tickB, h0, h1]

set_option maxHeartbeats 400000 in
theorem form_any (t : Int) (w : World) :
    Calls Tryd.prog 63 #[.int .i64 t] w fun e w' => e = .returned (.bool (tickB t)) ∧ w = w' := by
  by_cases h0 : 0 ≤ t
  · by_cases h1 : t ≤ 4611686018427387903
    · have e : tickB t = true := tickB_mk h0 h1
      rw [e]
      go_enter Tryd.func63, Tryd.ntmps63
      go_wp2
      go_ret
      exact ⟨rfl, rfl⟩
    · have e : tickB t = false := by simp [tickB]; omega
      rw [e]
      go_enter Tryd.func63, Tryd.ntmps63
      go_wp2
      go_ret
      exact ⟨rfl, rfl⟩
  · have e : tickB t = false := by simp [tickB]; omega
    rw [e]
    have hd : decide (0 ≤ t) = false := by simpa using h0
    go_enter Tryd.func63, Tryd.ntmps63
    go_wp2
    go_ret
    exact ⟨rfl, rfl⟩

/-- The tick nearest to n. -/
def clampI (n : Int) : Int := if n < 0 then 0 else if n ≤ 4611686018427387903 then n else 4611686018427387903


theorem clampI_tick (n : Int) : 0 ≤ clampI n ∧ clampI n ≤ 4611686018427387903 := by unfold clampI; split <;> (try split) <;> omega
theorem clampI_id {n : Int} (h0 : 0 ≤ n) (h1 : n ≤ 4611686018427387903) : clampI n = n := by unfold clampI; split <;> (try split) <;> omega

/-- The quotient rounded up. -/
def ceilI (a b : Int) : Int := if 0 < a % b then a / b + 1 else a / b

theorem div_tick {a b : Int} (a0 : 0 ≤ a) (h0 : 0 < b) : 0 ≤ a / b ∧ a / b ≤ a ∧ 0 ≤ a % b ∧ a % b < b :=
  ⟨Int.ediv_nonneg a0 (by omega), Int.ediv_le_self b a0, Int.emod_nonneg a (by omega), Int.emod_lt_of_pos a h0⟩







end Go.Proofs.YtbpldplbkmabmaaDoor
