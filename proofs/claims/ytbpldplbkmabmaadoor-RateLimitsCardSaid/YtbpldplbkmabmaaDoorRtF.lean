/- Contracts of spigotref04.DocReal and, out of Within's, DocWithin. -/
import Derived.Test.YtbpldplbkmabmaaDoorRtC
namespace Go.Proofs.YtbpldplbkmabmaaDoor
open Go.RowKit
set_option linter.unusedVariables false

def FloatRes (w : World) (x : Nat) (e : Ending) (w' : World) : Prop := e = .returned (.float .f64 x) ∧ Below w.heap.size w w'

theorem rratio_w {a b : Int} {x : Nat} (h : RatW a b x 0) (ha1 : -9223372036854775808 ≤ a) (ha2 : a ≤ 9223372036854775807) (hb1 : -9223372036854775808 ≤ b) (hb2 : b ≤ 9223372036854775807) (w : World) :
    Calls Tryd.prog 65 #[.int .i64 a, .int .i64 b] w (FloatRes w x) := by
  rcases h with ⟨-, -, h⟩ | ⟨hb, rfl, rfl, -⟩ | ⟨hb, ha, -, r, hr, rfl⟩
  · cases h
  · exact (rratio_none b w hb1 hb2).mono fun e w' ⟨he, hw⟩ => ⟨he, hw⟩
  · exact (rratio_some a b w ha1 ha2 hb1 hb2 ha hb).mono fun e w' ⟨r', he, hr', hw⟩ => ⟨by rw [he, rat_unique (by omega) hr' hr], hw⟩

set_option maxHeartbeats 1000000 in
theorem docreal_yes (T tau hz : Int) (x : Nat) (w : World) (h : limB T tau = true) (h1 : 1 ≤ hz) (h2 : hz ≤ 1000000000)
    (k : ∀ v, Calls Tryd.prog 65 #[.int .i64 hz, .int .i64 T] v (FloatRes v x)) :
    Calls Tryd.prog 25 #[limV T tau, .int .i64 hz] w (FE w x 0) := by
  have kc := fun v => rcheck4_any T tau v
  rw [h, show codeI true = 0 from rfl] at kc
  have Hy := Lib.hid kc
  unfold FloatRes at k
  have K := Lib.hid k
  clear h k kc
  unfold limV FE at *
  go_enter Tryd.func25, Tryd.ntmps25
  go_wp2_with fail
  refine (Hy.out _).mono ?_
  rintro e w1 ⟨rfl, hb⟩
  obtain ⟨hc0, hc1⟩ := mx_cell hb
  have Hb := Lib.hid (below_past hb)
  clear hb
  go_wp2_with fail
  with_reducible refine (K.out _).mono ?_
  rintro e w2 ⟨rfl, hb2⟩
  have Hb2 := Lib.hid (Hb.out.trans (hb2.mono Hb.out.size))
  clear hb2
  go_wp2
  exact bodyPost_ret (v := .tuple #[.float .f64 x, .int .i64 0]) (by simp [results, Tryd.results25, go_sem]) rfl ⟨rfl, Hb2.out⟩

set_option maxHeartbeats 1000000 in
theorem docreal_no (T tau hz : Int) (w : World) (h : realB T tau hz = false) :
    Calls Tryd.prog 25 #[limV T tau, .int .i64 hz] w (FE w 0 1) := by
  have kc := fun v => rcheck4_any T tau v
  have cut : limB T tau = false ∨ (limB T tau = true ∧ hz < 1) ∨ (limB T tau = true ∧ 1 ≤ hz ∧ 1000000000 < hz) := by
    cases hl : limB T tau with
    | false => exact Or.inl rfl
    | true =>
      unfold realB at h
      rw [hl, Bool.true_and] at h
      have := of_decide_eq_false h
      by_cases g : hz < 1
      · exact Or.inr (Or.inl ⟨rfl, g⟩)
      · exact Or.inr (Or.inr ⟨rfl, by omega, by omega⟩)
  clear h
  have c0 : codeI false = 1 := rfl
  have c1 : codeI true = 0 := rfl
  generalize limB T tau = L at *
  unfold limV FE at *
  rcases cut with rfl | ⟨rfl, g⟩ | ⟨rfl, g0, g⟩
  all_goals
    first | rw [c0] at kc | rw [c1] at kc
    have Hy := Lib.hid kc
    clear kc c0 c1
    go_enter Tryd.func25, Tryd.ntmps25
    go_wp2_with (go_at_call 27; (refine (Hy.out _).mono ?_); rintro e w1 ⟨rfl, hb⟩; have Hb := Lib.hid (below_past hb); clear hb)
    exact bodyPost_ret (v := .tuple #[.float .f64 0, .int .i64 1]) (by simp [results, Tryd.results25, go_sem]) rfl ⟨rfl, Hb.out⟩
end Go.Proofs.YtbpldplbkmabmaaDoor
