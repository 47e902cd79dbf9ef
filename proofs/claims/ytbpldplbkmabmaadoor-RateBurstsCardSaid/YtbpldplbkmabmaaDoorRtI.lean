/- Contract of spigotref04.DocOf. Printed by gen_docof.py. -/
import Derived.Test.YtbpldplbkmabmaaDoorRtD
import Derived.Test.YtbpldplbkmabmaaDoorRlQ
import Derived.Deep.QuietTactic
import Derived.BigQuiet
namespace Go.Proofs.YtbpldplbkmabmaaDoor
open Go.RowKit
set_option linter.unusedVariables false

theorem m_pw {r : Nat} (h : r < 9218868437227405312) : numM r < pw 53 := by
  have e : pw 53 = 9007199254740992 := by decide
  rw [e]; unfold numM; split <;> omega

/-- Number's parts, shifted: the float as a over c. -/
theorem shift_num (v : Value) (r : Nat) (w : World) (hr : r < 9218868437227405312) (h : IsN w v (numM r)) :
    Calls Tryd.prog 58 #[v, .int .i64 ((numE r : Int) - 1074)] w (OverRes w r) := by
  have hE : numE r ≤ 2046 := by unfold numE; omega
  have hm := m_pw hr
  have hv := @num_val r
  by_cases hk : 1074 ≤ numE r
  · have e : (numE r : Int) - 1074 = ((numE r - 1074 : Nat) : Int) := by omega
    rw [e]
    refine (shift_up v (numM r) (numE r - 1074) w h (le_pw hm (by decide)) (by omega)).mono ?_
    rintro e w' ⟨v1, v2, he, h1, h2, hb⟩
    refine ⟨v1, v2, _, _, he, h1, h2, ⟨by decide, ?_, shl_pw hm (by omega), one_lt_pw (by decide)⟩, hb⟩
    have := ratio_shift (m := numM r) (hz := 1) hk (V r) hv.symm
    simpa using this
  · have e : (numE r : Int) - 1074 = -((1074 - numE r : Nat) : Int) := by omega
    rw [e]
    refine (shift_down v (numM r) (1074 - numE r) w h (by omega) (by omega)).mono ?_
    rintro e w' ⟨v1, v2, he, h1, h2, hb⟩
    refine ⟨v1, v2, _, _, he, h1, h2, ⟨Nat.mul_pos (by decide) (Nat.two_pow_pos _), ?_, le_pw hm (by decide), one_shl_pw (by omega)⟩, hb⟩
    have := ratio_shift2 (m := numM r) (hz := 1) (show numE r < 1074 by omega) (V r) hv.symm
    simpa using this

theorem quiet_left {P : Program} {f : FuncId} {args : Array Value} {w : World} {n : Nat} {v : Value}
    (h : Calls P f args (w.drewN n) fun e w' => e = .returned v ∧ w.drewN n = w') : Calls P f args (w.drewN n) fun e w'' => e = .returned v ∧ ∃ m, w'' = w.drewN m :=
  h.mono fun _ _ ⟨he, hm⟩ => ⟨he, n, hm.symm⟩
theorem two_drewN (w : World) (a b : Obj) (n : Nat) : Below w.heap.size w (((w.alloc a).alloc b).drewN n) :=
  below_drewN (((Below.refl _ _).alloc (Nat.le_refl _) _).alloc (by simp) _) n
theorem two_past {w w' : World} {a b : Obj} {n : Nat} (h : Below (((w.alloc a).alloc b).drewN n).heap.size (((w.alloc a).alloc b).drewN n) w') : Below w.heap.size w w' :=
  (two_drewN w a b n).trans (h.mono (two_drewN w a b n).size)

set_option maxRecDepth 100000 in
set_option maxHeartbeats 8000000 in
theorem docof_bad (p b : Nat) (hz kp kb r : Int) (mp mb : Bool) (w : World)
    (k1 : ∀ v, Calls Tryd.prog 34 #[.float .f64 p] v fun e w' => e = .returned (.int .i64 kp) ∧ v = w')
    (k2 : ∀ v, Calls Tryd.prog 34 #[.float .f64 b] v fun e w' => e = .returned (.int .i64 kb) ∧ v = w')
    (m1 : ∀ v, Calls Tryd.prog 36 #[.float .f64 p] v fun e w' => e = .returned (.bool mp) ∧ v = w')
    (m2 : ∀ v, Calls Tryd.prog 36 #[.float .f64 b] v fun e w' => e = .returned (.bool mb) ∧ v = w')
    (h : (hz < 1 ∧ r = 1) ∨ (1 ≤ hz ∧ 1000000000 < hz ∧ r = 1) ∨ (1 ≤ hz ∧ hz ≤ 1000000000 ∧ ((kp = 4 ∧ r = 4) ∨ ((kp == 4) = false ∧ kb = 4 ∧ r = 4) ∨ ((kp == 4) = false ∧ (kb == 4) = false ∧ ((kp = 3 ∧ r = 5) ∨ (kp = 0 ∧ r = 5) ∨ ((kp == 3) = false ∧ (kp == 0) = false ∧ ((mp = true ∧ r = 5) ∨ (mp = false ∧ kb = 3 ∧ r = 5) ∨ (mp = false ∧ (kb == 3) = false ∧ 0 < kb ∧ mb = true ∧ r = 5)))))))) :
    Calls Tryd.prog 18 #[rateV p b hz] w (OfRes w 0 0 r) := by
  have K1 := Lib.hid k1
  have K2 := Lib.hid k2
  have M1 := Lib.hid m1
  have M2 := Lib.hid m2
  clear k1 k2 m1 m2
  have hc : True := trivial
  unfold rateV OfRes limV
  rcases h with ⟨a1, rfl⟩ | ⟨a0, a1, rfl⟩ | ⟨a0, a1, ⟨rfl, rfl⟩ | ⟨a2, rfl, rfl⟩ | ⟨a2, a3, ⟨rfl, rfl⟩ | ⟨rfl, rfl⟩ | ⟨a4, a5, ⟨rfl, rfl⟩ | ⟨rfl, rfl, rfl⟩ | ⟨rfl, a6, a7, rfl, rfl⟩⟩⟩⟩
  all_goals
    go_enter Tryd.func18, Tryd.ntmps18
    go_wp2_with fail
    go_quiet ((first | (go_at_call 34; with_reducible exact quiet_left (K1.out _)) | (go_at_call 34; with_reducible exact quiet_left (K2.out _))))
    go_wp2_with (first | (go_at_call 34; (with_reducible refine (K1.out _).mono ?_); rintro e w' ⟨rfl, rfl⟩) | (go_at_call 34; (with_reducible refine (K2.out _).mono ?_); rintro e w' ⟨rfl, rfl⟩) | (go_at_call 36; (with_reducible refine (M1.out _).mono ?_); rintro e w' ⟨rfl, rfl⟩) | (go_at_call 36; (with_reducible refine (M2.out _).mono ?_); rintro e w' ⟨rfl, rfl⟩))
    have Hw := Lib.hid (two_drewN w)
    first
      | exact bodyPost_ret (v := .tuple #[.agg #[.int .i64 0, .int .i64 0], .int .i64 1]) (by simp [results, Tryd.results18, go_sem, hc]) rfl ⟨rfl, by repeat (first | exact Hw.out | exact Hw.out _ _ _ | (refine Below.setCell ?_ (by first | (simp; done) | (simp; omega)) _) | (refine Below.alloc ?_ (by first | (simp; done) | (simp; omega)) _))⟩
      | exact bodyPost_ret (v := .tuple #[.agg #[.int .i64 0, .int .i64 0], .int .i64 4]) (by simp [results, Tryd.results18, go_sem, hc]) rfl ⟨rfl, by repeat (first | exact Hw.out | exact Hw.out _ _ _ | (refine Below.setCell ?_ (by first | (simp; done) | (simp; omega)) _) | (refine Below.alloc ?_ (by first | (simp; done) | (simp; omega)) _))⟩
      | exact bodyPost_ret (v := .tuple #[.agg #[.int .i64 0, .int .i64 0], .int .i64 5]) (by simp [results, Tryd.results18, go_sem, hc]) rfl ⟨rfl, by repeat (first | exact Hw.out | exact Hw.out _ _ _ | (refine Below.setCell ?_ (by first | (simp; done) | (simp; omega)) _) | (refine Below.alloc ?_ (by first | (simp; done) | (simp; omega)) _))⟩

end Go.Proofs.YtbpldplbkmabmaaDoor
