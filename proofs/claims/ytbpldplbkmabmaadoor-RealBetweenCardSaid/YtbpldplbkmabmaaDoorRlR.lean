/- RealBetween's walk. -/
import Derived.Test.YtbpldplbkmabmaaDoorFlJ
import Derived.Test.YtbpldplbkmabmaaDoorRlJ
import Derived.Test.YtbpldplbkmabmaaDoorRlI
namespace Go.Proofs.YtbpldplbkmabmaaDoor
open Go.RowKit



set_option maxRecDepth 100000 in
set_option maxHeartbeats 8000000 in
theorem between_core (a b : Nat) (hz d n u m e f g h : Int) (L E : Bool) (w : World) (hT : Tab w)
    (k0 : ∀ v, Tab v → Calls Tryd.prog 37 #[.float .f64 a, .int .i64 hz, .int .i64 0] v (TwoRes v d e))
    (k1 : ∀ v, Tab v → Calls Tryd.prog 37 #[.float .f64 a, .int .i64 hz, .int .i64 1] v (TwoRes v u g))
    (k2 : ∀ v, Tab v → Calls Tryd.prog 37 #[.float .f64 a, .int .i64 hz, .int .i64 2] v (TwoRes v n f))
    (k3 : ∀ v, Tab v → Calls Tryd.prog 37 #[.float .f64 b, .int .i64 hz, .int .i64 0] v (TwoRes v m h))
    (hL : (FloatKind.f64.format.order a b == some .lt) = L) (hE : (FloatKind.f64.format.order a b == some .eq) = E)
    (hx : (e ≠ 0 ∧ f = e ∧ g = e ∧ d = 0 ∧ n = 0 ∧ u = 0) ∨ (e = 0 ∧ f = 0 ∧ g = 0 ∧ 0 ≤ d ∧ d ≤ n ∧ n ≤ u ∧ u ≤ d + 1 ∧ u ≤ 4611686018427387903) ∨ (e = 0 ∧ g = 5 ∧ d = 4611686018427387903))
    (hy : e ≠ 0 ∨ h ≠ 0 ∨ (L = false ∧ E = false) ∨ d ≤ m) :
    Calls Tryd.prog 11 #[.int .u64 a, .int .u64 b, .int .i64 hz] w fun e w' => e = .returned (.bool true) ∧ Below w.heap.size w w' := by
  have HT := Lib.hid hT
  have Ka := Lib.hid (fun v h => awake3 v h)
  have Koa := Lib.hid (fun v => of3_any a v)
  have Kob := Lib.hid (fun v => of3_any b v)
  unfold TwoRes at k0 k1 k2 k3
  have K0 := Lib.hid k0
  have K1 := Lib.hid k1
  have K2 := Lib.hid k2
  have K3 := Lib.hid k3
  clear k0 k1 k2 k3 hT
  have split : (e ≠ 0 ∧ f = e ∧ g = e ∧ d = 0 ∧ n = 0 ∧ u = 0) ∨
      ((e = 0 ∧ ((f = 0 ∧ g = 0 ∧ 0 ≤ d ∧ d ≤ 4611686018427387902 ∧ n = d ∧ u = d + 1) ∨ (f = 0 ∧ g = 0 ∧ 0 ≤ d ∧ d ≤ 4611686018427387902 ∧ n = d + 1 ∧ u = d + 1) ∨ (f = 0 ∧ g = 0 ∧ n = d ∧ u = d) ∨ (g = 5 ∧ d = 4611686018427387903)))
      ∧ (h ≠ 0 ∨ (h = 0 ∧ L = false ∧ E = false) ∨ (h = 0 ∧ d ≤ m))) := by
    have q (he : e = 0) : (h ≠ 0 ∨ (h = 0 ∧ L = false ∧ E = false) ∨ (h = 0 ∧ d ≤ m)) := by
      by_cases h0 : h = 0
      · rcases hy with g | g | g | g
        · omega
        · omega
        · exact Or.inr (Or.inl ⟨h0, g⟩)
        · exact Or.inr (Or.inr ⟨h0, g⟩)
      · exact Or.inl h0
    rcases hx with hx | ⟨h1, h2, h3, h4, h5, h6, h7, h8⟩ | ⟨h1, h2, h3⟩
    · exact Or.inl hx
    · exact Or.inr ⟨⟨h1, by omega⟩, q h1⟩
    · exact Or.inr ⟨⟨h1, Or.inr (Or.inr (Or.inr ⟨h2, h3⟩))⟩, q h1⟩
  clear hx hy
  have fin : (e ≠ 0 ∧ f = e ∧ g = e ∧ d = 0 ∧ n = 0 ∧ u = 0) ∨ e = 0 := by
    rcases split with h | h
    · exact Or.inl h
    · exact Or.inr h.1.1
  rcases split with ⟨h0, rfl, rfl, rfl, rfl, rfl⟩ | ⟨⟨rfl, s⟩, q⟩
  · clear hL hE
    go_enter Tryd.func11, Tryd.ntmps11
    go_wp2_with fail
    with_reducible refine (Ka.out _ HT.out).mono ?_
    rintro e1 w1 ⟨rfl, hb1⟩
    have Hb1 := Lib.hid hb1
    clear hb1
    go_wp2_with fail
    with_reducible refine (Koa.out _).mono ?_
    rintro e1 w' ⟨rfl, rfl⟩
    go_wp2_with fail
    with_reducible refine (Kob.out _).mono ?_
    rintro e1 w' ⟨rfl, rfl⟩
    go_wp2_with fail
    with_reducible refine (K0.out _ (HT.out.later Hb1.out)).mono ?_
    rintro e1 w2 ⟨rfl, hb2⟩
    have Hb2 := Lib.hid (Hb1.out.trans (hb2.mono Hb1.out.size))
    clear hb2
    go_wp2_with fail
    with_reducible refine (K2.out _ (HT.out.later Hb2.out)).mono ?_
    rintro e1 w3 ⟨rfl, hb3⟩
    have Hb3 := Lib.hid (Hb2.out.trans (hb3.mono Hb2.out.size))
    clear hb3
    go_wp2_with fail
    with_reducible refine (K1.out _ (HT.out.later Hb3.out)).mono ?_
    rintro e1 w4 ⟨rfl, hb4⟩
    have Hb4 := Lib.hid (Hb3.out.trans (hb4.mono Hb3.out.size))
    clear hb4
    go_wp2
    go_ret
    exact ⟨rfl, Hb4.out⟩
  · have cut : (h ≠ 0 ∨ (h = 0 ∧ L = false ∧ E = false) ∨ (h = 0 ∧ d ≤ m ∧ L = false ∧ E = true) ∨ (h = 0 ∧ d ≤ m ∧ L = true ∧ E = false) ∨ (h = 0 ∧ d ≤ m ∧ L = true ∧ E = true)) := by
      rcases q with q | q | ⟨q1, q2⟩
      · exact Or.inl q
      · exact Or.inr (Or.inl q)
      · cases L <;> cases E <;> simp [q1, q2]
    clear q fin
    have hw : d ≤ 4611686018427387902 → 0 ≤ d → IntKind.i64.wrap (d + 1) = d + 1 := fun h1 h2 => by rw [IntKind.wrap_i64]; omega
    rcases s with ⟨rfl, rfl, h1, h2, rfl, rfl⟩ | ⟨rfl, rfl, h1, h2, rfl, rfl⟩ | ⟨rfl, rfl, rfl, rfl⟩ | ⟨rfl, rfl⟩
    all_goals
      first | (have hw1 := hw h2 h1; clear hw) | clear hw
      rcases cut with h0 | ⟨rfl, rfl, rfl⟩ | ⟨rfl, q1, rfl, rfl⟩ | ⟨rfl, q1, rfl, rfl⟩ | ⟨rfl, q1, rfl, rfl⟩
    all_goals
      go_enter Tryd.func11, Tryd.ntmps11
      go_wp2_with fail
      with_reducible refine (Ka.out _ HT.out).mono ?_
      rintro e1 w1 ⟨rfl, hb1⟩
      have Hb1 := Lib.hid hb1
      clear hb1
      go_wp2_with fail
      with_reducible refine (Koa.out _).mono ?_
      rintro e1 w' ⟨rfl, rfl⟩
      go_wp2_with fail
      with_reducible refine (Kob.out _).mono ?_
      rintro e1 w' ⟨rfl, rfl⟩
      go_wp2_with fail
      with_reducible refine (K0.out _ (HT.out.later Hb1.out)).mono ?_
      rintro e1 w2 ⟨rfl, hb2⟩
      have Hb2 := Lib.hid (Hb1.out.trans (hb2.mono Hb1.out.size))
      clear hb2
      go_wp2_with fail
      with_reducible refine (K2.out _ (HT.out.later Hb2.out)).mono ?_
      rintro e1 w3 ⟨rfl, hb3⟩
      have Hb3 := Lib.hid (Hb2.out.trans (hb3.mono Hb2.out.size))
      clear hb3
      go_wp2_with fail
      with_reducible refine (K1.out _ (HT.out.later Hb3.out)).mono ?_
      rintro e1 w4 ⟨rfl, hb4⟩
      have Hb4 := Lib.hid (Hb3.out.trans (hb4.mono Hb3.out.size))
      clear hb4
      go_wp2_with fail
      with_reducible refine (K3.out _ (HT.out.later Hb4.out)).mono ?_
      rintro e1 w5 ⟨rfl, hb5⟩
      have Hb5 := Lib.hid (Hb4.out.trans (hb5.mono Hb4.out.size))
      clear hb5
      go_wp2
      go_ret
      exact ⟨rfl, Hb5.out⟩
end Go.Proofs.YtbpldplbkmabmaaDoor
