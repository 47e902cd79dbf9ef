/- Contract of rate.Of. -/
import Derived.Test.YtbpldplbkmabmaaDoorRtB
namespace Go.Proofs.YtbpldplbkmabmaaDoor
open Go.RowKit
set_option linter.unusedVariables false

theorem bcell {W w1 : World} (hb : Below W.heap.size W w1) : (∀ b o, b < W.heap.size → w1.cell? ⟨b, o, none⟩ = W.cell? ⟨b, o, none⟩) ∧ (∀ b o, b < W.heap.size → w1.frozen? ⟨b, o, none⟩ = W.frozen? ⟨b, o, none⟩) :=
  ⟨fun b o h => hb.cell (p := ⟨b, o, none⟩) h, fun b o h => hb.frozen (p := ⟨b, o, none⟩) h⟩

/-- The ticks between two, before the least is 1. -/
def rtU (p : Nat) (hz : Int) : Nat := wholeN (pw 1074 * hz.toNat) (V (rg p)) 1
def rtT (p : Nat) (hz : Int) : Nat := max (rtU p hz) 1
def rtS (p b : Nat) (hz : Int) : Nat := wholeN (V (rg b) * rtT p hz) (pw 1074) 0
/-- The error of Of. -/
def rtE (p b : Nat) (hz : Int) : Nat := if rtC p b hz ≠ 0 then rtC p b hz else if rtU p hz ≤ 4611686018427387903 then (if rtS p b hz ≤ 4611686018427387903 then 0 else 5) else 5
def rtLT (p b : Nat) (hz : Int) : Int := if rtE p b hz = 0 then rtT p hz else 0
def rtLS (p b : Nat) (hz : Int) : Int := if rtE p b hz = 0 then rtS p b hz else 0
def OfRes (w : World) (T tau f : Int) (e : Ending) (w' : World) : Prop := e = .returned (.tuple #[limV T tau, .int .i64 f]) ∧ Below w.heap.size w w'

theorem rt_bad {p b : Nat} {hz : Int} (h : rtC p b hz ≠ 0) : rtE p b hz = rtC p b hz ∧ rtLT p b hz = 0 ∧ rtLS p b hz = 0 := by
  have e : rtE p b hz = rtC p b hz := by unfold rtE; rw [if_pos h]
  refine ⟨e, ?_, ?_⟩
  · unfold rtLT; rw [e, if_neg h]
  · unfold rtLS; rw [e, if_neg h]
theorem rt_big {p b : Nat} {hz : Int} (h : rtC p b hz = 0) (h1 : ¬ rtU p hz ≤ 4611686018427387903) : rtE p b hz = 5 ∧ rtLT p b hz = 0 ∧ rtLS p b hz = 0 := by
  have e : rtE p b hz = 5 := by unfold rtE; rw [if_neg (by omega), if_neg h1]
  refine ⟨e, ?_, ?_⟩
  · unfold rtLT; rw [e, if_neg (by omega)]
  · unfold rtLS; rw [e, if_neg (by omega)]
theorem rt_wide {p b : Nat} {hz : Int} (h : rtC p b hz = 0) (h1 : rtU p hz ≤ 4611686018427387903) (h2 : ¬ rtS p b hz ≤ 4611686018427387903) : rtE p b hz = 5 ∧ rtLT p b hz = 0 ∧ rtLS p b hz = 0 := by
  have e : rtE p b hz = 5 := by unfold rtE; rw [if_neg (by omega), if_pos h1, if_neg h2]
  refine ⟨e, ?_, ?_⟩
  · unfold rtLT; rw [e, if_neg (by omega)]
  · unfold rtLS; rw [e, if_neg (by omega)]
theorem rt_some {p b : Nat} {hz : Int} (h : rtC p b hz = 0) (h1 : rtU p hz ≤ 4611686018427387903) (h2 : rtS p b hz ≤ 4611686018427387903) : rtE p b hz = 0 ∧ rtLT p b hz = rtT p hz ∧ rtLS p b hz = rtS p b hz := by
  have e : rtE p b hz = 0 := by unfold rtE; rw [if_neg (by omega), if_pos h1, if_pos h2]
  refine ⟨e, ?_, ?_⟩
  · unfold rtLT; rw [e, if_pos rfl]
  · unfold rtLS; rw [e, if_pos rfl]

theorem rtC_zero {p b : Nat} {hz : Int} (h : rtC p b hz = 0) : 1 ≤ hz ∧ hz ≤ 1000000000 ∧ 0 < rg p ∧ rg p < 9218868437227405312 ∧ sgn p = false ∧ rg b < 9218868437227405312 ∧ ¬ (sgn b = true ∧ 0 < rg b) := by
  unfold rtC at h
  by_cases c1 : hz < 1 ∨ 1000000000 < hz
  · rw [if_pos c1] at h; omega
  rw [if_neg c1] at h
  by_cases c2 : 9218868437227405312 < rg p ∨ 9218868437227405312 < rg b
  · rw [if_pos c2] at h; omega
  rw [if_neg c2] at h
  by_cases c3 : 9218868437227405312 ≤ rg p ∨ sgn p = true ∨ rg p = 0 ∨ 9218868437227405312 ≤ rg b ∨ (sgn b = true ∧ 0 < rg b)
  · rw [if_pos c3] at h; omega
  have d1 : ¬ 9218868437227405312 ≤ rg p := fun h => c3 (Or.inl h)
  have d2 : ¬ sgn p = true := fun h => c3 (Or.inr (Or.inl h))
  have d3 : ¬ rg p = 0 := fun h => c3 (Or.inr (Or.inr (Or.inl h)))
  have d4 : ¬ 9218868437227405312 ≤ rg b := fun h => c3 (Or.inr (Or.inr (Or.inr (Or.inl h))))
  have d5 : ¬ (sgn b = true ∧ 0 < rg b) := fun h => c3 (Or.inr (Or.inr (Or.inr (Or.inr h))))
  exact ⟨by omega, by omega, by omega, by omega, by simpa using d2, by omega, d5⟩

/-- The quotients, out of the shorter forms. -/
theorem rt_first {p a c z : Nat} (h0 : 0 < rg p) (ho : OverNat (rg p) a c) : 0 < a ∧ wholeN (z * c) a 1 = rtU p z := by
  have hV : 0 < V (rg p) := by have := V_lt h0; omega
  have ha : 0 < a := by
    refine Nat.pos_of_ne_zero fun h => ?_
    have h2 := ho.2.1
    rw [h, Nat.zero_mul] at h2
    have := Nat.mul_pos hV ho.1
    omega
  refine ⟨ha, ?_⟩
  unfold rtU
  rw [Int.toNat_natCast]
  refine whole_ratio 1 ha hV ?_
  rw [Nat.mul_assoc, Nat.mul_comm c, ← ho.2.1, Nat.mul_comm z, Nat.mul_assoc, Nat.mul_comm a, Nat.mul_assoc]

theorem rt_next {p b a c t : Nat} {hz : Int} (ho : OverNat (rg b) a c) (ht : t = rtT p hz) : wholeN (t * a) c 0 = rtS p b hz := by
  have h1 := ho.1
  have h2 := ho.2.1
  have hU := pw_pos 1074
  unfold rtS
  rw [← ht]
  generalize pw 1074 = U at *
  refine whole_ratio 0 h1 hU ?_
  rw [Nat.mul_assoc, h2, Nat.mul_comm t, Nat.mul_assoc, Nat.mul_assoc, Nat.mul_comm c]

set_option maxHeartbeats 2000000 in
theorem of_bad (p b : Nat) (hz : Int) (w : World) (hp : p < 18446744073709551616) (hb : b < 18446744073709551616) (h : rtC p b hz ≠ 0) :
    Calls Tryd.prog 17 #[rateV p b hz] w (OfRes w 0 0 (rtC p b hz)) := by
  have K := Lib.hid (fun v => check_any p b hz v hp hb)
  have hc0 : ((rtC p b hz : Int) != 0) = true := by rw [bne_iff_ne]; omega
  unfold rateV OfRes limV at *
  generalize rtC p b hz = f at *
  clear h
  go_enter Tryd.func17, Tryd.ntmps17
  go_wp2_with fail
  refine (K.out _).mono ?_
  rintro e w1 ⟨rfl, hb⟩
  obtain ⟨hc, hf⟩ := bcell hb
  have hz1 : w.heap.size + 1 < w1.heap.size := by have := hb.size; simp at this; omega
  have Hb := Lib.hid (below_past (below_past hb))
  clear hb
  go_wp2
  exact bodyPost_ret (v := .tuple #[.agg #[.int .i64 0, .int .i64 0], .int .i64 f]) (by simp [results, Tryd.results17, go_sem, hc]) rfl ⟨rfl, by repeat (first | exact Hb.out | (refine Below.setCell ?_ (by first | (simp; done) | (simp; omega)) _))⟩

theorem mul_at {va : Value} {na z : Nat} (hs : na < pw 2000) (hz : z < 18446744073709551616) : Hid (∀ v, IsN v va na → Calls Tryd.prog 56 #[va, .int .u64 z] v (NatRes v (z * na))) :=
  Lib.hid fun v h => pmul_pw va na z v h hs hz

set_option maxRecDepth 100000 in
set_option maxHeartbeats 8000000 in
theorem of_good (p b z : Nat) (T tau f : Int) (w : World) (hp : p < 18446744073709551616) (hb : b < 18446744073709551616) (hT : Tab w) (hC : rtC p b z = 0) (hTe : rtLT p b z = T) (hTu : rtLS p b z = tau) (hf : (rtE p b z : Int) = f) :
    Calls Tryd.prog 17 #[rateV p b z] w (OfRes w T tau f) := by
  obtain ⟨a1, a2, p0, p1, p2, b1, b2⟩ := rtC_zero hC
  have K := Lib.hid (fun v => check_any p b z v hp hb)
  rw [hC] at K
  have Ko := Lib.hid (fun v h => over_any p v hp p1 h)
  have Kq := Lib.hid (fun v h => over_any b v hb b1 h)
  have HT := Lib.hid hT
  have Hbig := Lib.hid (fun h => rt_big (p := p) (b := b) (hz := z) hC h)
  have Hwide := Lib.hid (fun h h' => rt_wide (p := p) (b := b) (hz := z) hC h h')
  have Hsome := Lib.hid (fun h h' => rt_some (p := p) (b := b) (hz := z) hC h h')
  have Hfst := Lib.hid (fun a c (ho : OverNat (rg p) a c) => rt_first (z := z) p0 ho)
  have Hnxt := Lib.hid (fun a c t (ho : OverNat (rg b) a c) (ht : t = rtT p z) => rt_next ho ht)
  have HtT : Hid (rtT p z = max (rtU p z) 1) := Lib.hid rfl
  clear p0 p1 p2 b1 b2 hp hb hT hC
  rw [hTe, hTu] at Hbig Hwide Hsome
  generalize rtU p z = U at *
  generalize rtS p b z = S at *
  generalize rtT p z = T0 at *
  generalize rtE p b z = f0 at *
  subst hf
  clear hTe hTu
  unfold rateV OfRes limV at *
  go_enter Tryd.func17, Tryd.ntmps17
  go_wp2_with fail
  with_reducible refine (K.out _).mono ?_
  rintro e w1 ⟨rfl, hb⟩
  obtain ⟨hc, hf⟩ := bcell hb
  have Hb1 := Lib.hid hb
  clear hb
  go_wp2_with fail
  with_reducible refine (Ko.out _ (HT.out.later (below_past (below_past Hb1.out)))).mono ?_
  rintro e w2 ⟨v1, v2, a, c, rfl, hv1, hv2, ho, hb2⟩
  have Hb2 := Lib.hid (Hb1.out.trans (hb2.mono Hb1.out.size))
  clear hb2 hc hf Hb1
  obtain ⟨hc, hf⟩ := bcell Hb2.out
  obtain ⟨ha0, hw1⟩ := Hfst.out a c ho
  have Hv1 := Lib.hid hv1; have Hv2 := Lib.hid hv2; have Ho := Lib.hid ho; have Hw1 := Lib.hid hw1; have Ha0 := Lib.hid ha0
  have Km := mul_at (va := v2) (na := c) (z := z) Ho.out.2.2.2 (by omega)
  clear hv1 hv2 ho hw1 ha0 Hfst Ko K
  go_wp2_with fail
  with_reducible refine (Km.out _ Hv2.out).mono ?_
  rintro e w3 ⟨v3, rfl, hv3, hb3⟩
  have Hv3 := Lib.hid hv3; have Hv1' := Lib.hid (Hv1.out.later hb3)
  have Hb3 := Lib.hid (Hb2.out.trans (hb3.mono Hb2.out.size))
  clear hv3 hb3 hc hf Hb2 Hv1 Hv2 Km
  obtain ⟨hc, hf⟩ := bcell Hb3.out
  have Kw := Lib.hid (fun v (h : IsN v v3 (z * c)) (h' : IsN v v1 a) => whole_any v3 v1 (z * c) a 1 v h h' Ha0.out (mul_pw (show z < 2 ^ 30 by omega) Ho.out.2.2.2 (by decide)) (le_pw Ho.out.2.2.1 (by decide)) (by decide))
  rw [Hw1.out] at Kw
  go_wp2_with fail
  refine (Kw.out _ Hv3.out Hv1'.out).mono ?_
  rintro e w4 ⟨x, rfl, hx, hb4⟩
  have Hb4 := Lib.hid (Hb3.out.trans (hb4.mono Hb3.out.size))
  clear hb4 hc hf Hb3 Kw Hv3 Hv1' Hw1 Ha0 Ho
  obtain ⟨hc, hf⟩ := bcell Hb4.out
  by_cases hm : U ≤ 4611686018427387903
  · have hxn := hx hm
    subst hxn
    rw [decide_eq_true hm]
    clear hx Hbig
    by_cases h0 : U = 0
    · have hT0 : T0 = 1 := by rw [HtT.out]; omega
      subst h0 hT0
      go_wp2_with fail
      refine (Kq.out _ (HT.out.later (below_past (below_past Hb4.out)))).mono ?_
      rintro e w5 ⟨v4, v5, a', c', rfl, hv4, hv5, ho, hb5⟩
      have Hb5 := Lib.hid (Hb4.out.trans (hb5.mono Hb4.out.size))
      clear hb5 hc hf Hb4
      obtain ⟨hc, hf⟩ := bcell Hb5.out
      have Hv4 := Lib.hid hv4; have Hv5 := Lib.hid hv5; have Ho := Lib.hid ho
      have Hw2 := Lib.hid (Hnxt.out a' c' 1 ho rfl)
      have Km := mul_at (va := v4) (na := a') (z := 1) Ho.out.2.2.1 (by omega)
      clear hv4 hv5 ho Hnxt Kq
      go_wp2_with fail
      refine (Km.out _ Hv4.out).mono ?_
      rintro e w6 ⟨v6, rfl, hv6, hb6⟩
      have Hv6 := Lib.hid hv6; have Hv5' := Lib.hid (Hv5.out.later hb6)
      have Hb6 := Lib.hid (Hb5.out.trans (hb6.mono Hb5.out.size))
      clear hv6 hb6 hc hf Hb5 Hv4 Hv5 Km
      obtain ⟨hc, hf⟩ := bcell Hb6.out
      have Kw := Lib.hid (fun v (h : IsN v v6 (1 * a')) (h' : IsN v v5 c') => whole_any v6 v5 (1 * a') c' 0 v h h' Ho.out.1 (mul_pw (show 1 < 2 ^ 63 by omega) Ho.out.2.2.1 (by decide)) (le_pw Ho.out.2.2.2 (by decide)) (by decide))
      rw [Hw2.out] at Kw
      go_wp2_with fail
      refine (Kw.out _ Hv6.out Hv5'.out).mono ?_
      rintro e w7 ⟨y, rfl, hy, hb7⟩
      have Hb7 := Lib.hid (Hb6.out.trans (hb7.mono Hb6.out.size))
      clear hb7 hc hf Hb6 Kw Hv6 Hv5' Hw2 Ho
      obtain ⟨hc, hf⟩ := bcell Hb7.out
      have Hw := Lib.hid (below_past (below_past Hb7.out))
      by_cases hn : S ≤ 4611686018427387903
      · have hyn := hy hn
        subst hyn
        obtain ⟨e1, e2, e3⟩ := Hsome.out hm hn
        subst e1 e2 e3
        rw [decide_eq_true hn]
        clear hy hn hm Hwide Hsome
        go_wp2
        exact bodyPost_ret (v := .tuple #[.agg #[.int .i64 1, .int .i64 S], .int .i64 0]) (by simp [results, Tryd.results17, go_sem, hc]) rfl ⟨rfl, by repeat (first | exact Hw.out | (refine Below.setCell ?_ (by first | (simp; done) | (simp; omega)) _))⟩
      · obtain ⟨e1, e2, e3⟩ := Hwide.out hm hn
        subst e1 e2 e3
        rw [decide_eq_false hn]
        clear hy hn hm Hwide Hsome
        go_wp2
        exact bodyPost_ret (v := .tuple #[.agg #[.int .i64 0, .int .i64 0], .int .i64 5]) (by simp [results, Tryd.results17, go_sem, hc]) rfl ⟨rfl, by repeat (first | exact Hw.out | (refine Below.setCell ?_ (by first | (simp; done) | (simp; omega)) _))⟩
    · have hT0 : T0 = U := by rw [HtT.out]; omega
      have hU1 : (1 : Int) ≤ (U : Int) := by omega
      subst hT0
      go_wp2_with fail
      refine (Kq.out _ (HT.out.later (below_past (below_past Hb4.out)))).mono ?_
      rintro e w5 ⟨v4, v5, a', c', rfl, hv4, hv5, ho, hb5⟩
      have Hb5 := Lib.hid (Hb4.out.trans (hb5.mono Hb4.out.size))
      clear hb5 hc hf Hb4
      obtain ⟨hc, hf⟩ := bcell Hb5.out
      have Hv4 := Lib.hid hv4; have Hv5 := Lib.hid hv5; have Ho := Lib.hid ho
      have Hw2 := Lib.hid (Hnxt.out a' c' T0 ho rfl)
      have Km := mul_at (va := v4) (na := a') (z := T0) Ho.out.2.2.1 (by omega)
      clear hv4 hv5 ho Hnxt Kq
      go_wp2_with fail
      refine (Km.out _ Hv4.out).mono ?_
      rintro e w6 ⟨v6, rfl, hv6, hb6⟩
      have Hv6 := Lib.hid hv6; have Hv5' := Lib.hid (Hv5.out.later hb6)
      have Hb6 := Lib.hid (Hb5.out.trans (hb6.mono Hb5.out.size))
      clear hv6 hb6 hc hf Hb5 Hv4 Hv5 Km
      obtain ⟨hc, hf⟩ := bcell Hb6.out
      have Kw := Lib.hid (fun v (h : IsN v v6 (T0 * a')) (h' : IsN v v5 c') => whole_any v6 v5 (T0 * a') c' 0 v h h' Ho.out.1 (mul_pw (show T0 < 2 ^ 63 by omega) Ho.out.2.2.1 (by decide)) (le_pw Ho.out.2.2.2 (by decide)) (by decide))
      rw [Hw2.out] at Kw
      go_wp2_with fail
      refine (Kw.out _ Hv6.out Hv5'.out).mono ?_
      rintro e w7 ⟨y, rfl, hy, hb7⟩
      have Hb7 := Lib.hid (Hb6.out.trans (hb7.mono Hb6.out.size))
      clear hb7 hc hf Hb6 Kw Hv6 Hv5' Hw2 Ho
      obtain ⟨hc, hf⟩ := bcell Hb7.out
      have Hw := Lib.hid (below_past (below_past Hb7.out))
      by_cases hn : S ≤ 4611686018427387903
      · have hyn := hy hn
        subst hyn
        obtain ⟨e1, e2, e3⟩ := Hsome.out hm hn
        subst e1 e2 e3
        rw [decide_eq_true hn]
        clear hy hn hm Hwide Hsome
        go_wp2
        exact bodyPost_ret (v := .tuple #[.agg #[.int .i64 T0, .int .i64 S], .int .i64 0]) (by simp [results, Tryd.results17, go_sem, hc]) rfl ⟨rfl, by repeat (first | exact Hw.out | (refine Below.setCell ?_ (by first | (simp; done) | (simp; omega)) _))⟩
      · obtain ⟨e1, e2, e3⟩ := Hwide.out hm hn
        subst e1 e2 e3
        rw [decide_eq_false hn]
        clear hy hn hm Hwide Hsome
        go_wp2
        exact bodyPost_ret (v := .tuple #[.agg #[.int .i64 0, .int .i64 0], .int .i64 5]) (by simp [results, Tryd.results17, go_sem, hc]) rfl ⟨rfl, by repeat (first | exact Hw.out | (refine Below.setCell ?_ (by first | (simp; done) | (simp; omega)) _))⟩
  · obtain ⟨e1, e2, e3⟩ := Hbig.out hm
    subst e1 e2 e3
    rw [decide_eq_false hm]
    have Hw := Lib.hid (below_past (below_past Hb4.out))
    clear hx hm Hbig Hwide Hsome
    go_wp2
    exact bodyPost_ret (v := .tuple #[.agg #[.int .i64 0, .int .i64 0], .int .i64 5]) (by simp [results, Tryd.results17, go_sem, hc]) rfl ⟨rfl, by repeat (first | exact Hw.out | (refine Below.setCell ?_ (by first | (simp; done) | (simp; omega)) _))⟩

/-- Of, of whatever rate. -/
theorem of_any (p b : Nat) (hz : Int) (w : World) (hp : p < 18446744073709551616) (hb : b < 18446744073709551616) (hT : Tab w) :
    Calls Tryd.prog 17 #[rateV p b hz] w (OfRes w (rtLT p b hz) (rtLS p b hz) (rtE p b hz)) := by
  by_cases h : rtC p b hz = 0
  · obtain ⟨a1, -⟩ := rtC_zero h
    obtain ⟨z, rfl⟩ := Int.eq_ofNat_of_zero_le (show 0 ≤ hz by omega)
    exact of_good p b z _ _ _ w hp hb hT h rfl rfl rfl
  · obtain ⟨e1, e2, e3⟩ := rt_bad h
    rw [e1, e2, e3]
    exact of_bad p b hz w hp hb h
end Go.Proofs.YtbpldplbkmabmaaDoor
