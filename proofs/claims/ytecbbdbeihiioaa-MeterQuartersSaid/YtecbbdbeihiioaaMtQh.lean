/- What MeterQuarters asks, in plain words. No walk in this text. -/
import Derived.Test.YtecbbdbeihiioaaMtQg
import Derived.Test.YtecbbdbeihiioaaMtQd
import Derived.Test.YtecbbdbeihiioaaMtL
namespace Go.Proofs.Ytecbbdbeihiioaa
open Go.RowKit
set_option linter.unusedVariables false

theorem mid_test {x : Nat} : (FloatKind.f64.format.order (rg x) 9110782046170513408 == some .lt) = decide (rg x < 9110782046170513408) := by
  have hl := rg_lt x
  rw [ord_lt (by omega) (by decide), show okW 9110782046170513408 = true by decide, show keyW 9110782046170513408 = 9110782046170513408 by decide]
  have e1 : keyW (rg x) = (rg x : Int) := by unfold keyW; rw [sgn_pos hl, rg_pos hl]; rfl
  have e2 : okW (rg x) = decide (rg x ≤ 9218868437227405312) := by unfold okW; rw [rg_pos hl]
  rw [e1, e2]
  by_cases h : rg x < 9110782046170513408
  · rw [decide_eq_true h, decide_eq_true (by omega), decide_eq_true (by omega)]; rfl
  · rw [decide_eq_false h, decide_eq_false (show ¬ (rg x : Int) < 9110782046170513408 by omega), Bool.and_false]

theorem le_ord {a b : Nat} (ha : a < 18446744073709551616) (hb : b < 18446744073709551616) (h1 : rg a ≤ 9218868437227405312) (h2 : rg b ≤ 9218868437227405312) (h : keyW a ≤ keyW b) :
    (FloatKind.f64.format.order a b == some .lt) = true ∨ ((FloatKind.f64.format.order a b == some .lt) = false ∧ (FloatKind.f64.format.order a b == some .eq) = true) := by
  have o1 : okW a = true := decide_eq_true h1
  have o2 : okW b = true := decide_eq_true h2
  rw [ord_lt ha hb, ord_eq ha hb, o1, o2]
  by_cases hl : keyW a < keyW b
  · left; rw [decide_eq_true hl]; rfl
  · right; rw [decide_eq_false hl, decide_eq_true (by omega)]; exact ⟨rfl, rfl⟩
theorem ge_ord {a b : Nat} (ha : a < 18446744073709551616) (hb : b < 18446744073709551616) (h1 : rg a ≤ 9218868437227405312) (h2 : rg b ≤ 9218868437227405312) (h : keyW b ≤ keyW a) :
    (FloatKind.f64.format.order a b == some .gt) = true ∨ ((FloatKind.f64.format.order a b == some .gt) = false ∧ (FloatKind.f64.format.order a b == some .eq) = true) := by
  have o1 : okW a = true := decide_eq_true h1
  have o2 : okW b = true := decide_eq_true h2
  rw [ord_gt ha hb, ord_eq ha hb, o1, o2]
  by_cases hl : keyW b < keyW a
  · left; rw [decide_eq_true hl]; rfl
  · right; rw [decide_eq_false hl, decide_eq_true (by omega)]; exact ⟨rfl, rfl⟩

/-- A share that Quantile takes. -/
def Share (q : Nat) : Prop := q < 18446744073709551616 ∧ ¬ 9218868437227405312 < rg q ∧ (FloatKind.f64.format.order q 0 == some .lt) = false ∧ (FloatKind.f64.format.order q 4607182418800017408 == some .gt) = false

theorem mid_bad {q : Nat} {M : List Nat} (hM : ∀ x ∈ M, Mid x) (hq : ¬ 9218868437227405312 < rg q) : badK q M M.length = false := by
  unfold badK isN
  rw [decide_eq_false hq, Bool.false_or, List.take_length, List.any_eq_false]
  intro x hx
  have := (hM x hx).2
  rw [decide_eq_true_eq]
  omega

/-- Quantile at such a list: an error, or a quantile. -/
theorem quant_ways {M : List Nat} (q : Nat) (hq : q < 18446744073709551616) (hM : ∀ x ∈ M, Mid x) (hl : M.length ≤ 300) :
    (∃ e : Int, e ≠ 0 ∧ ∀ v w, FlAt w v M → Calls Try.prog 20 #[v, .float .f64 q] w (QuP w (fun y => y = 0) e)) ∨
    (0 < M.length ∧ Share q ∧ ∃ p ti f r, QuEx q p ti f r (M.length - 1) ∧ ∀ N : List Nat, N.Perm M → ∀ v w, FlAt w v N → Calls Try.prog 20 #[v, .float .f64 q] w (QuP w (QuY M f ti) 0)) := by
  by_cases hn : 9218868437227405312 < rg q
  · refine Or.inl ⟨4, by decide, fun v w h => quant_core v M q w _ _ _ 4 h (by omega) hq rfl rfl (Or.inl ⟨?_, rfl, rfl⟩)⟩
    unfold badK isN
    rw [decide_eq_true hn, Bool.true_or]
  · have hb := mid_bad hM hn
    cases h1 : (FloatKind.f64.format.order q 0 == some .lt)
    · cases h2 : (FloatKind.f64.format.order q 4607182418800017408 == some .gt)
      · by_cases hl0 : M.length = 0
        · exact Or.inl ⟨7, by decide, fun v w h => quant_core v M q w _ _ _ 7 h (by omega) hq h1 h2 (Or.inr (Or.inr (Or.inr (Or.inl ⟨hb, rfl, rfl, hl0, rfl, rfl⟩))))⟩
        · obtain ⟨p, ti, f, r, hE⟩ := qu_ex hq hn h1 h2 (show M.length - 1 ≤ 4095 by omega)
          refine Or.inr ⟨by omega, ⟨hq, hn, h1, h2⟩, p, ti, f, r, hE, fun N hN v w h => ?_⟩
          have hNl := hN.length_eq
          refine quant_core v N q w _ _ _ 0 h (by omega) hq h1 h2 (Or.inr (Or.inr (Or.inr (Or.inr ⟨mid_bad (fun x hx => hM x (hN.mem_iff.1 hx)) hn, rfl, rfl, by omega, rfl, p, ti, f, by rw [hNl]; exact hE.at_, ?_⟩))))
          rintro y ⟨L', pL, sL, rfl⟩
          exact ⟨L', pL.trans hN, sL, rfl⟩
      · exact Or.inl ⟨5, by decide, fun v w h => quant_core v M q w _ _ _ 5 h (by omega) hq h1 h2 (Or.inr (Or.inr (Or.inl ⟨hb, rfl, rfl, rfl, rfl⟩)))⟩
    · exact Or.inl ⟨5, by decide, fun v w h => quant_core v M q w _ _ _ 5 h (by omega) hq h1 rfl (Or.inr (Or.inl ⟨hb, rfl, rfl, rfl⟩))⟩

theorem share_zero : Share 0 := ⟨by decide, by decide, by decide +kernel, by decide +kernel⟩
theorem share_one : Share 4607182418800017408 := ⟨by decide, by decide, by decide +kernel, by decide +kernel⟩

theorem qu_zero {p ti f r n : Nat} (h : QuEx 0 p ti f r n) : ti = 0 ∧ (FloatKind.f64.format.order f 0 == some .eq) = true := by
  have hn := h.near
  rw [show rg 0 = 0 by decide, V_zero, Nat.zero_mul] at hn
  have hr : r = 0 := near_same (pw_pos _) (pw_pos _) hn (near_zero (pw_pos 1074)) rfl
  subst hr
  have ht := h.tiv
  rw [V_zero, Nat.zero_div] at ht
  obtain ⟨-, -, -, F4⟩ := f_facts h
  rw [V_zero, Nat.zero_mod] at F4
  have : rg f = 0 := near_same (by decide) (by decide) F4 (near_zero (by decide)) rfl
  exact ⟨ht.symm, ford_zero_word h.at_.flt this⟩
theorem qu_one {p ti f r n : Nat} (hn4 : n ≤ 4095) (h : QuEx 4607182418800017408 p ti f r n) : ti = n := by
  obtain ⟨R, -, hV, -, -⟩ := key_fi (i := n) (by omega)
  have hn := h.near
  have hp := pw_pos 1074
  rw [show rg 4607182418800017408 = 4607182418800017408 by decide, v_one', ← hV] at hn
  have hr : r = R := near_of_exact hp hn (Nat.mul_comm _ _)
  have ht := h.tiv
  rw [hr, hV, Nat.mul_div_cancel _ hp] at ht
  exact ht.symm

/-- What the law asks of the quantiles of a list. -/
theorem quarters_facts {M : List Nat} {n : Nat} {m : Mt} (hM : ∀ x ∈ M, Mid x) (hl : M.length = n + 1) (hn : n ≤ 4095) (hm : mtSim m (foldM M)) (hok : m.Ok)
    {p pp tp fp rp q pq tq fq rq p0 t0 f0 r0 p1 t1 f1 r1 c1 c2 c3 c4 : Nat} (hq : q < 18446744073709551616) (hp : p < 18446744073709551616) (hqs : Share q) (hps : Share p) (Ep : QuEx p pp tp fp rp n) (Eq : QuEx q pq tq fq rq n) (E0 : QuEx 0 p0 t0 f0 r0 n) (E1 : QuEx 4607182418800017408 p1 t1 f1 r1 n)
    (l1 : c1 < 18446744073709551616) (l2 : c2 < 18446744073709551616) (l3 : c3 < 18446744073709551616) (l4 : c4 < 18446744073709551616)
    (h1 : QuY M fp tp (nfW c1)) (h2 : QuY M fq tq (nfW c2)) (h3 : QuY M f0 t0 (nfW c3)) (h4 : QuY M f1 t1 (nfW c4)) :
    rk c3 = rk m.Lo ∧ rk c4 = rk m.Hi ∧ ((FloatKind.f64.format.order c1 m.Lo == some .gt) = true ∨ ((FloatKind.f64.format.order c1 m.Lo == some .gt) = false ∧ (FloatKind.f64.format.order c1 m.Lo == some .eq) = true)) ∧
      ((FloatKind.f64.format.order c1 m.Hi == some .lt) = true ∨ ((FloatKind.f64.format.order c1 m.Hi == some .lt) = false ∧ (FloatKind.f64.format.order c1 m.Hi == some .eq) = true)) ∧
      (((FloatKind.f64.format.order p q == some .lt) = true ∨ (FloatKind.f64.format.order p q == some .eq) = true) → ((FloatKind.f64.format.order c1 c2 == some .lt) = true ∨ ((FloatKind.f64.format.order c1 c2 == some .lt) = false ∧ (FloatKind.f64.format.order c1 c2 == some .eq) = true))) := by
  obtain ⟨L, pL, sL, e1⟩ := h1
  have hL : Rng L n := ⟨fun x hx => hM x (pL.mem_iff.1 hx), sL, by rw [pL.length_eq]; exact hl⟩
  have same : ∀ {f t y : Nat}, t ≤ n → f < 18446744073709551616 → QuY M f t y → y = quV L f t := by
    rintro f t y ht hf ⟨B, pB, sB, rfl⟩
    have hlB := pB.length_eq
    have hlL := hL.len
    exact quV_same (by omega) (fun x hx => (hM x (pB.mem_iff.1 hx)).1) (fun x hx => (hL.mid x hx).1) hf (sorted_same (pB.trans pL.symm) sB sL (by omega)) (fun hne => sorted_same (pB.trans pL.symm) sB sL (by omega))
  have e2 := same Eq.at_.le Eq.at_.flt h2
  have e3 := same E0.at_.le E0.at_.flt h3
  have e4 := same E1.at_.le E1.at_.flt h4
  obtain ⟨a1, a2, a3, a4, -⟩ := quv_bounds hL Ep
  obtain ⟨b1, b2, b3, b4, -⟩ := quv_bounds hL Eq
  obtain ⟨-, -, -, -, d5⟩ := quv_bounds hL E1
  have w1 : c1 = quV L fp tp := nf_word e1 a3
  have w2 : c2 = quV L fq tq := nf_word e2 b3
  obtain ⟨z1, z2⟩ := qu_zero E0
  have ho := qu_one hn E1
  have m0 := hL.at_ (Nat.zero_le n)
  have mn := hL.at_ (Nat.le_refl n)
  have v3 : quV L f0 t0 = L.getD 0 0 := by unfold quV; rw [if_pos (Or.inl z2), z1]; exact nf_mid m0
  have v4 : quV L f1 t1 = L.getD n 0 := by rw [d5 ho, ho]
  have w3 : c3 = L.getD 0 0 := nf_word (e3.trans v3) (by have := m0.2; omega)
  have w4 : c4 = L.getD n 0 := nf_word (e4.trans v4) (by have := mn.2; omega)
  have hne : M ≠ [] := by intro h; rw [h] at hl; simp at hl
  obtain ⟨g1, g2, g3⟩ := lo_hi M hM hne
  have wLo : m.Lo = (foldM M).Lo := nf_word (hm.2.2.2.2.1.trans (nf_mid (hM _ g1))) (by have := (hM _ g1).2; omega)
  have wHi : m.Hi = (foldM M).Hi := nf_word (hm.2.2.2.2.2.1.trans (nf_mid (hM _ g2))) (by have := (hM _ g2).2; omega)
  have mLo := hM _ g1
  have mHi := hM _ g2
  rw [← wLo] at g1 g3 mLo
  rw [← wHi] at g2 g3 mHi
  have rLo : rk (L.getD 0 0) = rk m.Lo := by
    obtain ⟨j, hj, ej⟩ := mem_getD (pL.mem_iff.2 g1)
    have u1 := (g3 _ (pL.mem_iff.1 (gd_mem (show 0 < L.length by rw [hL.len]; omega)))).1
    have u2 := sorted_le hL.srt (Nat.zero_le j) hj
    rw [ej] at u2
    omega
  have rHi : rk (L.getD n 0) = rk m.Hi := by
    obtain ⟨j, hj, ej⟩ := mem_getD (pL.mem_iff.2 g2)
    have hlL := hL.len
    have u1 := (g3 _ (pL.mem_iff.1 (gd_mem (show n < L.length by omega)))).2
    have u2 := sorted_le hL.srt (show j ≤ n by omega) (by omega)
    rw [ej] at u2
    omega
  have kLo : keyW m.Lo ≤ keyW (L.getD 0 0) := rk_key mLo m0 (by omega)
  have kHi : keyW (L.getD n 0) ≤ keyW m.Hi := rk_key mn mHi (by omega)
  have hpl := Ep.at_.le
  have xLo : keyW m.Lo ≤ keyW c1 := by rw [w1]; exact Int.le_trans kLo (Int.le_trans (hL.le (Nat.zero_le _) hpl) a1)
  have xHi : keyW c1 ≤ keyW m.Hi := by
    rw [w1]
    rcases Nat.lt_or_eq_of_le hpl with h | h
    · exact Int.le_trans (a2 h) (Int.le_trans (hL.le (by omega) (Nat.le_refl _)) kHi)
    · have := (quv_bounds hL Ep).2.2.2.2 h
      rw [this, h]
      exact kHi
  have c1r : rg c1 ≤ 9218868437227405312 := by rw [w1]; exact a3
  have c2r : rg c2 ≤ 9218868437227405312 := by rw [w2]; exact b3
  refine ⟨by rw [w3]; exact rLo, by rw [w4]; exact rHi, ge_ord l1 hok.2.2.1 c1r (by have := mLo.2; omega) xLo, le_ord l1 hok.2.2.2.1 c1r (by have := mHi.2; omega) xHi, fun hle => le_ord l1 l2 c1r c2r ?_⟩
  have hpq : keyW p ≤ keyW q := by
    rw [ord_lt hp hq, ord_eq hp hq] at hle
    simp only [Bool.and_eq_true, decide_eq_true_eq] at hle
    rcases hle with h | h <;> omega
  have key0 : ∀ {s : Nat}, Share s → keyW s = (rg s : Int) := by
    rintro s ⟨s1, s2, s3, s4⟩
    have o1 : okW s = true := decide_eq_true (by omega)
    rw [ord_lt s1 (by decide), o1, show okW 0 = true by decide, show keyW 0 = 0 by decide] at s3
    simp only [Bool.true_and, decide_eq_false_iff_not] at s3
    unfold keyW at s3 ⊢
    cases hs : sgn s
    · rfl
    · rw [hs] at s3; simp at s3 ⊢; omega
  rw [key0 hps, key0 hqs] at hpq
  have hr : rp ≤ rq := near_mono (pw_pos _) (pw_pos _) Ep.near Eq.near (Nat.mul_le_mul_right _ (Nat.mul_le_mul_right _ (V_le (by omega))))
  rw [w1, w2]
  exact quv_mono hL Ep Eq hr
end Go.Proofs.Ytecbbdbeihiioaa
