/- Contracts of spigotref03.Ratio, DocRatio, DocSeconds. -/
import Derived.Test.YtbpldplbkmabmaaDoorRlN
import Derived.Test.YtbpldplbkmabmaaDoorRlJ
namespace Go.Proofs.YtbpldplbkmabmaaDoor
open Go.RowKit

theorem nearest_zero (va vb : Value) (w : World) (ha : IsN w va 0) :
    Calls Tryd.prog 93 #[va, vb] w fun e w' => e = .returned (.float .f64 0) ∧ w = w' := by
  obtain ⟨la, ⟨aa, ca, rfl, hla, hca, hra⟩, hnl, hval⟩ := ha
  have h0 : la.length = 0 := by
    rcases Nat.eq_zero_or_pos la.length with h | h
    · exact h
    · have h1 := norm_ge hnl h
      have h2 : 0 < 4294967296 ^ (la.length - 1) := Nat.pow_pos (by decide)
      omega
  rw [h0]
  clear hla hca hra hnl hval h0
  go_enter Tryd.func93, Tryd.ntmps93
  go_wp2
  go_ret
  exact ⟨rfl, rfl⟩

theorem rratio_none (b : Int) (w : World) (h1 : -9223372036854775808 ≤ b) (h2 : b ≤ 9223372036854775807) :
    Calls Tryd.prog 65 #[.int .i64 0, .int .i64 b] w fun e w' => e = .returned (.float .f64 0) ∧ Below w.heap.size w w' := by
  have Ka := Lib.hid (fun v => near_word 0 v (by decide) (by decide))
  have Kb := Lib.hid (fun v => near_word b v h1 h2)
  rw [show (0 : Int).natAbs = 0 from rfl] at Ka
  have Kn := Lib.hid (fun u u' v (h : IsN v u 0) => nearest_zero u u' v h)
  go_enter Tryd.func65, Tryd.ntmps65
  go_wp2_with fail
  with_reducible refine (Ka.out _).mono ?_
  rintro e w1 ⟨v1, rfl, hv1, hb1⟩
  have Hv1 := Lib.hid hv1; have Hb1 := Lib.hid hb1
  clear hv1 hb1
  go_wp2_with fail
  with_reducible refine (Kb.out _).mono ?_
  rintro e w2 ⟨v2, rfl, hv2, hb2⟩
  have Hv1' := Lib.hid (Hv1.out.later hb2); have Hb2 := Lib.hid (Hb1.out.trans (hb2.mono Hb1.out.size))
  clear hv2 hb2
  go_wp2_with fail
  with_reducible refine (Kn.out _ _ _ Hv1'.out).mono ?_
  rintro e w3 ⟨rfl, rfl⟩
  go_wp2
  go_ret
  exact ⟨rfl, Hb2.out⟩

def RatResF (w : World) (a b : Int) (e : Ending) (w' : World) : Prop := ∃ r, e = .returned (.float .f64 (mkW (decide (a < 0) != decide (b < 0)) r)) ∧ RatNat a.natAbs b.natAbs r ∧ Below w.heap.size w w'

set_option maxHeartbeats 2000000 in
theorem rratio_some (a b : Int) (w : World) (ha1 : -9223372036854775808 ≤ a) (ha2 : a ≤ 9223372036854775807) (hb1 : -9223372036854775808 ≤ b) (hb2 : b ≤ 9223372036854775807) (ha : a ≠ 0) (hb : b ≠ 0) :
    Calls Tryd.prog 65 #[.int .i64 a, .int .i64 b] w (RatResF w a b) := by
  have Ka := Lib.hid (fun v => near_word a v ha1 ha2)
  have Kb := Lib.hid (fun v => near_word b v hb1 hb2)
  have Kn := Lib.hid (fun u u' v (h : IsN v u a.natAbs) (h' : IsN v u' b.natAbs) => nearest_any u u' _ _ v h h' (by omega) (by omega) (by omega) (by omega))
  have h0 : (a != 0) = true := by simpa using ha
  unfold RatResF
  clear ha hb
  generalize a.natAbs = x at *
  generalize b.natAbs = y at *
  have main : ∀ (sg : Bool) (da db : Bool), decide (a < 0) = da → decide (b < 0) = db → (da != db) = sg →
      Calls Tryd.prog 65 #[.int .i64 a, .int .i64 b] w (fun e w' => ∃ r, e = .returned (.float .f64 (mkW sg r)) ∧ RatNat x y r ∧ Below w.heap.size w w') := by
    intro sg da db hda hdb hsg
    cases da <;> cases db <;> (obtain rfl := hsg)
    all_goals
      go_enter Tryd.func65, Tryd.ntmps65
      go_wp2_with fail
      with_reducible refine (Ka.out _).mono ?_
      rintro e w1 ⟨v1, rfl, hv1, hb1⟩
      have Hv1 := Lib.hid hv1; have Hb1 := Lib.hid hb1
      clear hv1 hb1
      go_wp2_with fail
      with_reducible refine (Kb.out _).mono ?_
      rintro e w2 ⟨v2, rfl, hv2, hb2⟩
      have Hv2 := Lib.hid hv2; have Hv1' := Lib.hid (Hv1.out.later hb2); have Hb2 := Lib.hid (Hb1.out.trans (hb2.mono Hb1.out.size))
      clear hv2 hb2
      go_wp2_with fail
      with_reducible refine (Kn.out _ _ _ Hv1'.out Hv2.out).mono ?_
      rintro e w3 ⟨r, rfl, hr, hb3⟩
      have hun := neg_unary (show r < 9223372036854775808 by have := hr.2.2; omega)
      have Hr := Lib.hid hr; have Hb3 := Lib.hid (Hb2.out.trans (hb3.mono Hb2.out.size))
      clear hr hb3
      go_wp2
      go_ret
      exact ⟨r, rfl, Hr.out, Hb3.out⟩
  exact main _ _ _ rfl rfl rfl

theorem docratio_zero (a : Int) (w : World) : Calls Tryd.prog 42 #[.int .i64 a, .int .i64 0] w fun e w' => e = .returned (.tuple #[.float .f64 0, .int .i64 5]) ∧ w = w' := by
  go_enter Tryd.func42, Tryd.ntmps42
  go_wp2
  go_ret2
  exact ⟨rfl, rfl⟩

theorem docratio_none (b : Int) (w : World) (h1 : -9223372036854775808 ≤ b) (h2 : b ≤ 9223372036854775807) (hb : b ≠ 0) :
    Calls Tryd.prog 42 #[.int .i64 0, .int .i64 b] w fun e w' => e = .returned (.tuple #[.float .f64 0, .int .i64 0]) ∧ Below w.heap.size w w' := by
  have K := Lib.hid (fun v => rratio_none b v h1 h2)
  have h0 : (b == 0) = false := by simpa using hb
  clear hb
  go_enter Tryd.func42, Tryd.ntmps42
  go_wp2_with fail
  with_reducible refine (K.out _).mono ?_
  rintro e w1 ⟨rfl, hb1⟩
  have Hb1 := Lib.hid hb1
  clear hb1
  go_wp2
  go_ret2
  exact ⟨rfl, Hb1.out⟩

theorem docratio_some (a b : Int) (w : World) (ha1 : -9223372036854775808 ≤ a) (ha2 : a ≤ 9223372036854775807) (hb1 : -9223372036854775808 ≤ b) (hb2 : b ≤ 9223372036854775807) (ha : a ≠ 0) (hb : b ≠ 0) :
    Calls Tryd.prog 42 #[.int .i64 a, .int .i64 b] w (RatRes w a b) := by
  have K := Lib.hid (fun v => rratio_some a b v ha1 ha2 hb1 hb2 ha hb)
  have h0 : (b == 0) = false := by simpa using hb
  clear ha hb
  go_enter Tryd.func42, Tryd.ntmps42
  go_wp2_with fail
  with_reducible refine (K.out _).mono ?_
  rintro e w1 ⟨r, rfl, hr, hb1⟩
  have Hr := Lib.hid hr; have Hb1 := Lib.hid hb1
  clear hr hb1
  go_wp2
  go_ret2
  exact ⟨r, rfl, Hr.out, Hb1.out⟩

theorem secB_form (t hz : Int) : secB t hz = (tickB t && decide (1 ≤ hz) && decide (hz ≤ 1000000000)) := by
  unfold secB tickB
  by_cases h1 : 0 ≤ t ∧ t ≤ 4611686018427387903
  · by_cases h2 : 1 ≤ hz
    · by_cases h3 : hz ≤ 1000000000
      · simp [h1, h2, h3]
      · simp [h3]
    · simp [h2]
  · rw [decide_eq_false h1, decide_eq_false (by omega)]; rfl

theorem docseconds_no (t hz : Int) (w : World) (h : secB t hz = false) :
    Calls Tryd.prog 40 #[.int .i64 t, .int .i64 hz] w fun e w' => e = .returned (.tuple #[.float .f64 0, .int .i64 1]) ∧ w = w' := by
  have hno := secB_no h
  have K := Lib.hid (fun v => rform_any t v)
  clear h
  cases hB : tickB t with
  | false =>
    rw [hB] at K
    clear hB hno
    go_enter Tryd.func40, Tryd.ntmps40
    go_wp2_with (go_at_call 45; (with_reducible refine (K.out _).mono ?_); rintro e w' ⟨rfl, rfl⟩)
    go_ret2
    exact ⟨rfl, rfl⟩
  | true =>
    rw [hB] at K
    have hb := tickB_yes hB
    by_cases c : hz < 1
    · clear hB hno hb
      go_enter Tryd.func40, Tryd.ntmps40
      go_wp2_with (go_at_call 45; (with_reducible refine (K.out _).mono ?_); rintro e w' ⟨rfl, rfl⟩)
      go_ret2
      exact ⟨rfl, rfl⟩
    · have c2 : 1000000000 < hz := by omega
      clear hB hno hb
      go_enter Tryd.func40, Tryd.ntmps40
      go_wp2_with (go_at_call 45; (with_reducible refine (K.out _).mono ?_); rintro e w' ⟨rfl, rfl⟩)
      go_ret2
      exact ⟨rfl, rfl⟩

theorem docseconds_zero (hz : Int) (w : World) (h : secB 0 hz = true) :
    Calls Tryd.prog 40 #[.int .i64 0, .int .i64 hz] w fun e w' => e = .returned (.tuple #[.float .f64 0, .int .i64 0]) ∧ Below w.heap.size w w' := by
  obtain ⟨h1, h2, h3, h4⟩ := secB_yes h
  have K := Lib.hid (fun v => rform_any 0 v)
  rw [show tickB 0 = true by decide] at K
  have Kr := Lib.hid (fun v => rratio_none hz v (by omega) (by omega))
  clear h
  go_enter Tryd.func40, Tryd.ntmps40
  go_wp2_with (go_at_call 45; (with_reducible refine (K.out _).mono ?_); rintro e w' ⟨rfl, rfl⟩)
  with_reducible refine (Kr.out _).mono ?_
  rintro e w1 ⟨rfl, hb1⟩
  have Hb1 := Lib.hid hb1
  clear hb1
  go_wp2
  go_ret2
  exact ⟨rfl, Hb1.out⟩

theorem docseconds_some (t hz : Int) (w : World) (h : secB t hz = true) (h0 : 0 < t) :
    Calls Tryd.prog 40 #[.int .i64 t, .int .i64 hz] w (SecRes w t.natAbs hz.natAbs) := by
  obtain ⟨h1, h2, h3, h4⟩ := secB_yes h
  have K := Lib.hid (fun v => rform_any t v)
  rw [show tickB t = true from tickB_mk h1 h2] at K
  have Kr := Lib.hid (fun v => rratio_some t hz v (by omega) (by omega) (by omega) (by omega) (by omega) (by omega))
  have Hs := Lib.hid (show (decide (t < 0) != decide (hz < 0)) = false by rw [decide_eq_false (by omega), decide_eq_false (by omega)]; rfl)
  clear h
  go_enter Tryd.func40, Tryd.ntmps40
  go_wp2_with (go_at_call 45; (with_reducible refine (K.out _).mono ?_); rintro e w' ⟨rfl, rfl⟩)
  with_reducible refine (Kr.out _).mono ?_
  rintro e w1 ⟨r, rfl, hr, hb⟩
  have Hr := Lib.hid hr; have Hb := Lib.hid hb
  clear hr hb
  rw [Hs.out]
  go_wp2
  go_ret2
  exact ⟨r, rfl, Hr.out, Hb.out⟩
end Go.Proofs.YtbpldplbkmabmaaDoor
