/- RateBursts, joined. -/
import Derived.Test.YtbpldplbkmabmaaDoorRtM
namespace Go.Proofs.YtbpldplbkmabmaaDoor
open Go.RowKit
set_option linter.unusedVariables false

theorem word_two {a : Nat} (h : a < 9218868437227405312) : rg a < 9218868437227405312 ∧ ¬ (sgn a = true ∧ 0 < rg a) ∧ rg a = a := by
  have h1 := rg_pos (show a < 9223372036854775808 by omega)
  have h2 := sgn_pos (show a < 9223372036854775808 by omega)
  rw [h1, h2]
  exact ⟨h, fun h => (by cases h.1), rfl⟩

/-- Of's answers, by the error C of the rate, the ticks U between two and the burst's ticks S. -/
def ofA (C U S : Nat) (x : Int) : Int := if C = 0 ∧ U ≤ 4611686018427387903 ∧ S ≤ 4611686018427387903 then x else 0
def ofE (C U S : Nat) : Int := if C ≠ 0 then (C : Int) else if U ≤ 4611686018427387903 ∧ S ≤ 4611686018427387903 then 0 else 5

theorem of_cases {p b : Nat} {hz : Int} {C U T S : Nat} (hp : p < 18446744073709551616) (hb : b < 18446744073709551616) (hC : rtC p b hz = C) (hU : rtU p hz = U) (hT : rtT p hz = T) (hS : rtS p b hz = S) :
    ∀ v, Tab v → Calls Tryd.prog 17 #[rateV p b hz] v (OfRes v (ofA C U S T) (ofA C U S S) (ofE C U S)) := fun v hv => by
  have h := of_any p b hz v hp hb hv
  by_cases c : C = 0
  · by_cases u : U ≤ 4611686018427387903
    · by_cases s : S ≤ 4611686018427387903
      · obtain ⟨e1, e2, e3⟩ := rt_some (p := p) (b := b) (hz := hz) (by rw [hC]; exact c) (by rw [hU]; exact u) (by rw [hS]; exact s)
        rw [e1, e2, e3, hT, hS] at h
        unfold ofA ofE
        rw [if_pos ⟨c, u, s⟩, if_pos ⟨c, u, s⟩, if_neg (fun h => h c), if_pos ⟨u, s⟩]
        exact h
      · obtain ⟨e1, e2, e3⟩ := rt_wide (p := p) (b := b) (hz := hz) (by rw [hC]; exact c) (by rw [hU]; exact u) (by rw [hS]; exact s)
        rw [e1, e2, e3] at h
        unfold ofA ofE
        rw [if_neg (fun h => s h.2.2), if_neg (fun h => s h.2.2), if_neg (fun h => h c), if_neg (fun h => s h.2)]
        exact h
    · obtain ⟨e1, e2, e3⟩ := rt_big (p := p) (b := b) (hz := hz) (by rw [hC]; exact c) (by rw [hU]; exact u)
      rw [e1, e2, e3] at h
      unfold ofA ofE
      rw [if_neg (fun h => u h.2.1), if_neg (fun h => u h.2.1), if_neg (fun h => h c), if_neg (fun h => u h.1)]
      exact h
  · obtain ⟨e1, e2, e3⟩ := rt_bad (p := p) (b := b) (hz := hz) (by rw [hC]; exact c)
    rw [e1, e2, e3, hC] at h
    unfold ofA ofE
    rw [if_neg (fun h => c h.1), if_neg (fun h => c h.1), if_pos c]
    exact h

theorem of_good' {p b : Nat} {hz : Int} {C U T S : Nat} {x : Int} (hx : x = (S : Int)) (c : C = 0) (u : U ≤ 4611686018427387903) (s : S ≤ 4611686018427387903) (h : ∀ v, Tab v → Calls Tryd.prog 17 #[rateV p b hz] v (OfRes v (ofA C U S T) (ofA C U S S) (ofE C U S))) :
    ∀ v, Tab v → Calls Tryd.prog 17 #[rateV p b hz] v (OfRes v T x 0) := by
  subst hx
  unfold ofA ofE at h
  rw [if_pos ⟨c, u, s⟩, if_pos ⟨c, u, s⟩, if_neg (fun h => h c), if_pos ⟨u, s⟩] at h
  exact h
theorem of_wide' {p b : Nat} {hz : Int} {C U T S : Nat} (c : C = 0) (s : ¬ (U ≤ 4611686018427387903 ∧ S ≤ 4611686018427387903)) (h : ∀ v, Tab v → Calls Tryd.prog 17 #[rateV p b hz] v (OfRes v (ofA C U S T) (ofA C U S S) (ofE C U S))) :
    ∀ v, Tab v → Calls Tryd.prog 17 #[rateV p b hz] v (OfRes v 0 0 5) := by
  unfold ofA ofE at h
  rw [if_neg (fun h => s h.2), if_neg (fun h => s h.2), if_neg (fun h => h c), if_neg s] at h
  exact h
theorem of_bad' {p b : Nat} {hz : Int} {C U T S : Nat} (c : ¬ C = 0) (h : ∀ v, Tab v → Calls Tryd.prog 17 #[rateV p b hz] v (OfRes v (ofA C U S T) (ofA C U S S) (ofE C U S))) :
    ∀ v, Tab v → Calls Tryd.prog 17 #[rateV p b hz] v (OfRes v 0 0 C) := by
  unfold ofA ofE at h
  rw [if_neg (fun h => c h.1), if_neg (fun h => c h.1), if_pos c] at h
  exact h

theorem bursts_join (p n f g C U T N : Nat) (hz : Int) (hn : n < 65536) (w : World) (hT : Tab w) (hfl : floatOfInt .f64 (n : Int) = f) (hfa : floatBits .add .f64 f 4602678819172646912 = some g)
    (k0 : ∀ v, Tab v → Calls Tryd.prog 17 #[rateV p 0 hz] v (OfRes v (ofA C U 0 T) (ofA C U 0 (0 : Nat)) (ofE C U 0)))
    (k1 : ∀ v, Tab v → Calls Tryd.prog 17 #[rateV p 9223372036854775808 hz] v (OfRes v (ofA C U 0 T) (ofA C U 0 (0 : Nat)) (ofE C U 0)))
    (k2 : ∀ v, Tab v → Calls Tryd.prog 17 #[rateV p f hz] v (OfRes v (ofA C U N T) (ofA C U N N) (ofE C U N)))
    (k4 : ∀ v, Tab v → Calls Tryd.prog 17 #[rateV p g hz] v (OfRes v (ofA C U (N + T / 2) T) (ofA C U (N + T / 2) (N + T / 2 : Nat)) (ofE C U (N + T / 2))))
    (hTU : T = max U 1) (hdv : (N : Int) / (T : Int) = (n : Int)) (hcast : ((n : Int) * (T : Int)) = (N : Int)) (hdiv : 0 < n → 4611686018427387903 < N → 4611686018427387903 / n < T) (hz0 : n = 0 → N = 0) :
    Calls Tryd.prog 4 #[.int .u64 p, .int .i64 hz, .int .u16 n] w fun e w' => e = .returned (.bool true) ∧ Below w.heap.size w w' := by
  have Hfl := Lib.hid hfl; have Hfa := Lib.hid hfa
  clear hfl hfa
  by_cases hC : C = 0
  · by_cases hU : U ≤ 4611686018427387903
    · have k0 := of_good' (x := 0) rfl hC hU (by decide) k0
      have k1 := of_good' (x := 0) rfl hC hU (by decide) k1
      have hl : N ≤ 4611686018427387903 → limB (T : Int) (N : Int) = true := by
        intro hS
        unfold limB
        rw [tickB_mk (by omega) (by omega), tickB_mk (by omega) (by omega), decide_eq_true (by omega)]
        rfl
      have hmul : N ≤ 4611686018427387903 → wrap64 ((n : Int) * (T : Int)) = (N : Int) := by
        intro hS
        rw [hcast]
        unfold wrap64
        omega
      by_cases hS : N ≤ 4611686018427387903
      · have k2 := of_good' rfl hC hU hS k2
        have k3 : ∀ v, Calls Tryd.prog 22 #[limV (T : Int) (N : Int)] v (TwoRes v ((n : Int) + 1) 0) := by
          intro v
          refine once_of _ _ _ _ v (fun u => ?_)
          have := within_yes (T : Int) (N : Int) 0 u (hl hS) (by decide)
          rw [Int.zero_add, hdv] at this
          exact this
        by_cases hG : N + T / 2 ≤ 4611686018427387903
        · have k4 := of_good' rfl hC hU hG k4
          exact bursts_all p n f g hz T N _ w hT hn Hfl.out Hfa.out k0 k1 k2 k3 k4 (by omega) (by omega) (hmul hS) (by omega) (by omega) (by omega) (by omega)
        · have k4 := of_wide' hC (fun h => hG h.2) k4
          exact bursts_some p n f g hz T N w hT hn Hfl.out Hfa.out k0 k1 k2 k3 k4 (by omega) (by omega) (hmul hS)
      · have k2 := of_wide' hC (fun h => hS h.2) k2
        have hn0 : 0 < n := by
          refine Nat.pos_of_ne_zero fun h => ?_
          have := hz0 h
          omega
        have h2 := Int.ofNat_lt.2 (hdiv hn0 (by omega))
        rw [Int.natCast_ediv] at h2
        exact bursts_wide p n f g hz T w hT hn Hfl.out Hfa.out k0 k1 k2 hn0 h2
    · exact bursts_bad p n f g hz 5 w hT hn Hfl.out Hfa.out (of_wide' hC (fun h => hU h.1) k0) (of_wide' hC (fun h => hU h.1) k1) (by decide) (by decide)
  · exact bursts_bad p n f g hz C w hT hn Hfl.out Hfa.out (of_bad' hC k0) (of_bad' hC k1) (by simp; omega) (by simp; omega)

theorem bursts_walk (p n : Nat) (hz : Int) (hp : p < 18446744073709551616) (hn : n < 65536) (w : World) (hT : Tab w) :
    Calls Tryd.prog 4 #[.int .u64 p, .int .i64 hz, .int .u16 n] w fun e w' => e = .returned (.bool true) ∧ Below w.heap.size w w' := by
  obtain ⟨f, g, hfl, hfa, hf, hg, Vf, Vg⟩ := half_float hn
  obtain ⟨f1, f2, f3⟩ := word_two hf
  obtain ⟨g1, g2, g3⟩ := word_two hg
  obtain ⟨z1, z2, z3⟩ := word_two (show (0 : Nat) < 9218868437227405312 by decide)
  have m3 : rg 9223372036854775808 = 0 := by decide
  have m1 : rg 9223372036854775808 < 9218868437227405312 := by rw [m3]; decide
  have m2 : ¬ (sgn 9223372036854775808 = true ∧ 0 < rg 9223372036854775808) := by rw [m3]; omega
  have hbf : f < 18446744073709551616 := by omega
  have hbg : g < 18446744073709551616 := by omega
  have k0 := of_cases (p := p) (b := 0) (hz := hz) hp (by decide) rfl rfl rfl (rtS_zero z3)
  have k1 := of_cases (p := p) (b := 9223372036854775808) (hz := hz) hp (by decide) (rtC_same m1 m2 z1 z2) rfl rfl (rtS_zero m3)
  have k2 := of_cases (p := p) (b := f) (hz := hz) hp hbf (rtC_same f1 f2 z1 z2) rfl rfl (rtS_whole (by rw [f3]; exact Vf))
  have k4 := of_cases (p := p) (b := g) (hz := hz) hp hbg (rtC_same g1 g2 z1 z2) rfl rfl (rtS_half (by rw [g3]; exact Vg))
  have hT0 : rtT p hz = max (rtU p hz) 1 := rfl
  clear Vf Vg
  generalize rtC p 0 hz = C at *
  generalize rtT p hz = T at *
  generalize rtU p hz = U at *
  refine bursts_join p n f g C U T (n * T) hz hn w hT hfl hfa k0 k1 k2 k4 hT0 ?_ (Int.natCast_mul _ _).symm (fun h h1 => (Nat.div_lt_iff_lt_mul h).2 (by rw [Nat.mul_comm]; exact h1)) (fun h => by rw [h, Nat.zero_mul])
  rw [Int.natCast_mul, Int.mul_ediv_cancel _ (by omega)]
end Go.Proofs.YtbpldplbkmabmaaDoor
