/- Plain law: quantiles of a sorted list of numbers that are finite and not too great. No program's run in this text. -/
import Derived.Test.YtecbbdbeihiioaaMtQf
namespace Go.Proofs.Ytecbbdbeihiioaa
open Go.RowKit
set_option linter.unusedVariables false

theorem v_under : V 4607182418800017407 + pw 1021 = pw 1074 := by
  obtain ⟨K, hK⟩ : ∃ K : Nat, K = 1021 := ⟨_, rfl⟩
  have e := V_at (E := K) (k := 9007199254740991) (by decide) (Or.inr (by decide))
  rw [show K * 4503599627370496 + 9007199254740991 = 4607182418800017407 by omega] at e
  rw [e, pw_53, ← hK, pw_eq]
  have := Nat.two_pow_pos K
  omega
theorem pw_52 : pw 1074 = 4503599627370496 * pw 1022 := by
  obtain ⟨J, hJ⟩ : ∃ J : Nat, J = 1074 := ⟨_, rfl⟩
  obtain ⟨K, hK⟩ : ∃ K : Nat, K = 1022 := ⟨_, rfl⟩
  rw [← hJ, ← hK, pw_eq, pw_eq, show J = 52 + K by omega, Nat.pow_add]
theorem pw_one : pw 1021 ≤ pw 1022 := by
  obtain ⟨J, hJ⟩ : ∃ J : Nat, J = 1021 := ⟨_, rfl⟩
  rw [show (1022 : Nat) = J + 1 by omega, ← hJ, pw_eq, pw_eq, Nat.pow_succ]
  omega
/-- What is left behind the whole part is less than one by more than a step. -/
theorem rest_le (r : Nat) : V r % pw 1074 + pw 1021 ≤ pw 1074 := by
  by_cases h : r < 4607182418800017408
  · have h1 : V r ≤ V 4607182418800017407 := V_le (by omega)
    have h2 := v_under
    have h3 : V r < pw 1074 := by
      have := pw_pos 1021
      omega
    rw [Nat.mod_eq_of_lt h3]
    omega
  · obtain ⟨j, hj⟩ : ∃ j : Nat, j = 1022 := ⟨_, rfl⟩
    obtain ⟨x, hx⟩ := V_dvd' (s := r) (j := j) (by omega)
    have h1 := pw_one
    have h2 := pw_pos 1022
    rw [hx, pw_52, ← pw_eq, hj, Nat.mul_mod_mul_right]
    have := Nat.mod_lt x (show 0 < 4503599627370496 by decide)
    have h3 : (x % 4503599627370496 + 1) * pw 1022 ≤ 4503599627370496 * pw 1022 := Nat.mul_le_mul_right _ (by omega)
    rw [Nat.add_mul, Nat.one_mul] at h3
    omega

structure QuEx (q p ti f r n : Nat) : Prop where
  at_ : QuAt q p ti f n
  near : IsNear (V (rg q) * (n * pw 1074)) (pw 1074) r
  tiv : V r / pw 1074 = ti
  fr : ∃ z, RoundW ((V r % pw 1074 : Nat) : Int) 1 z f

theorem qu_ex {q n : Nat} (hq : q < 18446744073709551616) (hqn : ¬ 9218868437227405312 < rg q) (h0 : (FloatKind.f64.format.order q 0 == some .lt) = false) (h1 : (FloatKind.f64.format.order q 4607182418800017408 == some .gt) = false) (hn : n ≤ 4095) : ∃ p ti f r, QuEx q p ti f r n := by
  obtain ⟨p, ti, f, hA⟩ := qu_at hq hqn h0 h1 hn
  have o1 : okW q = true := by unfold okW; exact decide_eq_true (by omega)
  have k0 : (sgn q = true → rg q = 0) ∧ rg q ≤ 4607182418800017408 := by
    rw [ord_lt hq (by decide), o1, show okW 0 = true by decide, show keyW 0 = 0 by decide] at h0
    rw [ord_gt hq (by decide), o1, show okW 4607182418800017408 = true by decide, show keyW 4607182418800017408 = 4607182418800017408 by decide] at h1
    simp only [Bool.true_and, decide_eq_false_iff_not] at h0 h1
    unfold keyW at h0 h1
    cases hs : sgn q
    · rw [hs] at h1; simp at h1; exact ⟨fun h => (by cases h), by omega⟩
    · rw [hs] at h0; simp at h0; exact ⟨fun _ => by omega, by omega⟩
  obtain ⟨k1, k2⟩ := k0
  have hfn : (n : Int).natAbs < 9007199254740992 := by omega
  obtain ⟨R, eR, hV, hR, -⟩ := key_fi (i := n) (by omega)
  have hsn : sgn (FI (n : Int)) = false := by rw [fi_sgn hfn]; exact decide_eq_false (by omega)
  have hrn : rg (FI (n : Int)) = R := by rw [eR]; exact rg_pos (by omega)
  obtain ⟨p', r, hm, hr, hp⟩ := mul_fin hq (fi_lt hfn) (by omega) (fi_rg hfn)
  have hpp : p' = p := by
    have := hA.mul
    rw [hm] at this
    exact Option.some.inj this
  subst hpp
  rw [hsn, Bool.xor_false] at hp
  rw [hrn] at hr
  have hpw := pw_pos 1074
  have hle : V (rg q) ≤ pw 1074 := by rw [← v_one']; exact V_le k2
  have hrR : r ≤ R := by
    refine near_mono hpw hpw hr (near_exact (r := R) hpw rfl) ?_
    exact Nat.mul_le_mul_right _ (by rw [Nat.mul_comm (V R)]; exact Nat.mul_le_mul_right _ hle)
  have hr0 : sgn q = true → r = 0 := fun h => by
    have := hr
    rw [k1 h, V_zero, Nat.zero_mul] at this
    exact near_same hpw hpw this (near_zero hpw) rfl
  rw [show min r 9218868437227405312 = r by omega] at hp
  have hprg : rg p' = r := by rw [hp]; exact rg_mkW (by omega)
  have hpsg : sgn p' = sgn q := by rw [hp]; exact sgn_mkW (by omega)
  have hval : valW p' = (V r : Int) := by
    unfold valW
    rw [hpsg, hprg]
    cases hs : sgn q
    · rfl
    · rw [hr0 hs, V_zero]; rfl
  have hVr : V r ≤ n * pw 1074 := by rw [← hV]; exact V_le hrR
  have hti : V r / pw 1074 = ti := by
    have h2 := int_of hA.plt (by omega) (fun h => by rw [hprg]; exact hr0 (by rw [← hpsg]; exact h)) rfl (t := V (rg p') / pw 1074) (by
      rw [hprg]
      have := Nat.div_le_div_right (c := pw 1074) hVr
      rw [Nat.mul_div_cancel _ hpw] at this
      omega)
    rw [hA.int] at h2
    have := Option.some.inj h2
    rw [hprg] at this
    omega
  refine ⟨p', ti, f, r, hA, by rw [← hV]; exact hr, hti, ?_⟩
  have htn := hA.le
  have hfi : (ti : Int).natAbs < 9007199254740992 := by omega
  obtain ⟨f', hf, hfr⟩ := sub_fin hA.plt (fi_lt hfi) (by omega) (fi_rg hfi)
  have hff : f' = f := by
    have := hA.sub
    rw [hf] at this
    exact Option.some.inj this
  subst hff
  have e : valW p' - valW (FI (ti : Int)) = ((V r % pw 1074 : Nat) : Int) := by
    rw [hval, fi_val hfi]
    have := Nat.div_add_mod (V r) (pw 1074)
    rw [hti, Nat.mul_comm] at this
    generalize pw 1074 = P at *
    have h2 : ((ti * P : Nat) : Int) = (ti : Int) * (P : Int) := by push_cast; rfl
    omega
  rw [e] at hfr
  exact ⟨_, hfr⟩

theorem f_facts {q p ti f r n : Nat} (h : QuEx q p ti f r n) : V (rg f) + pw 1021 ≤ pw 1074 ∧ rg f < 9218868437227405312 ∧ (sgn f = true → rg f = 0) ∧ IsNear (V r % pw 1074) 1 (rg f) := by
  have hb := rest_le r
  obtain ⟨z, hz⟩ := h.fr
  have hu := v_under
  have hp := pw_pos 1021
  generalize V r % pw 1074 = T at *
  rcases hz with ⟨h0, rfl⟩ | ⟨h0, s, hs, rfl⟩
  · have : T = 0 := by omega
    subst this
    rw [rg_mkW (by decide)]
    exact ⟨by rw [V_zero]; omega, by decide, fun _ => rfl, near_zero (by decide)⟩
  · rw [Int.natAbs_natCast] at hs
    have hs2 : s ≤ 4607182418800017407 := near_mono (by decide) (by decide) hs (near_exact (r := 4607182418800017407) (q := 1) (p := V 4607182418800017407) (by decide) (Nat.mul_one _)) (by omega)
    rw [show min s 9218868437227405312 = s by omega, rg_mkW (by omega), decide_eq_false (by omega), sgn_mkW (by omega)]
    have := V_le hs2
    exact ⟨by omega, by omega, fun h => (by cases h), hs⟩

theorem rk_key {a b : Nat} (ha : Mid a) (hb : Mid b) (h : rk a ≤ rk b) : keyW a ≤ keyW b := by
  obtain ⟨-, a2⟩ := ha
  obtain ⟨-, b2⟩ := hb
  have e1 : rk a = if sgn a then -1 - (rg a : Int) else (rg a : Int) := by unfold rk; rw [if_neg (by omega)]
  have e2 : rk b = if sgn b then -1 - (rg b : Int) else (rg b : Int) := by unfold rk; rw [if_neg (by omega)]
  rw [e1, e2] at h
  unfold keyW
  cases hs : sgn a <;> cases ht : sgn b <;> rw [hs, ht] at h <;> simp at h ⊢ <;> omega

/-- A list of such numbers in order. -/
structure Rng (L : List Nat) (n : Nat) : Prop where
  mid : ∀ x ∈ L, Mid x
  srt : Sorted L
  len : L.length = n + 1

theorem Rng.at_ {L : List Nat} {n i : Nat} (h : Rng L n) (hi : i ≤ n) : Mid (L.getD i 0) := h.mid _ (gd_mem (by have := h.len; omega))
theorem Rng.le {L : List Nat} {n i j : Nat} (h : Rng L n) (hij : i ≤ j) (hj : j ≤ n) : keyW (L.getD i 0) ≤ keyW (L.getD j 0) :=
  rk_key (h.at_ (by omega)) (h.at_ hj) (sorted_le h.srt hij (by have := h.len; omega))
theorem nf_mid {a : Nat} (h : Mid a) : nfW a = a := nfW_id (by have := h.2; omega)

theorem quv_bounds {L : List Nat} {n q p ti f r : Nat} (hL : Rng L n) (hq : QuEx q p ti f r n) :
    keyW (L.getD ti 0) ≤ keyW (quV L f ti) ∧ (ti < n → keyW (quV L f ti) ≤ keyW (L.getD (ti + 1) 0)) ∧ rg (quV L f ti) ≤ 9218868437227405312 ∧ quV L f ti < 18446744073709551616 ∧ (ti = n → quV L f ti = L.getD ti 0) := by
  have hle := hq.at_.le
  have ha := hL.at_ hle
  obtain ⟨F1, F2, F3, -⟩ := f_facts hq
  by_cases hc : (FloatKind.f64.format.order f 0 == some .eq) = true ∨ ti = L.length - 1 ∨ rk (L.getD ti 0) = rk (L.getD (ti + 1) 0)
  · have e : quV L f ti = L.getD ti 0 := by unfold quV; rw [if_pos hc]; exact nf_mid ha
    rw [e]
    exact ⟨Int.le_refl _, fun h => hL.le (by omega) (by omega), by have := ha.2; omega, ha.1, fun _ => rfl⟩
  · have hne : ti < n := by have := hL.len; omega
    have hb := hL.at_ (i := ti + 1) (by omega)
    have hab := val_le (hL.le (i := ti) (j := ti + 1) (by omega) (by omega))
    obtain ⟨rt, z, x, hx, -, hr, hu⟩ := qv_form ha hb hab hq.at_.flt F1 F2 F3
    have e : quV L f ti = x := by unfold quV; rw [if_neg hc]; exact hx
    rw [e]
    have sa := round_self ha.1 (by have := ha.2; omega)
    have sb := round_self hb.1 (by have := hb.2; omega)
    exact ⟨round_le sa hr (by omega), fun _ => round_le hr sb hu, roundW_rg hr, roundW_lt hr, fun h => by omega⟩

theorem ford_zero_word {f : Nat} (hf : f < 18446744073709551616) (h : rg f = 0) : (FloatKind.f64.format.order f 0 == some .eq) = true := by
  rw [ord_eq hf (by decide)]
  have h1 : okW f = true := by unfold okW; rw [h]; rfl
  rw [h1, show okW 0 = true by decide, show keyW 0 = 0 by decide]
  unfold keyW
  rw [h]
  cases sgn f <;> rfl

/-- A greater share has no lesser quantile. -/
theorem quv_mono {L : List Nat} {n q p ti f r q' p' ti' f' r' : Nat} (hL : Rng L n) (h : QuEx q p ti f r n) (h' : QuEx q' p' ti' f' r' n) (hr : r ≤ r') : keyW (quV L f ti) ≤ keyW (quV L f' ti') := by
  obtain ⟨b1, b2, -, -, b3⟩ := quv_bounds hL h
  obtain ⟨c1, c2, -, -, c3⟩ := quv_bounds hL h'
  have hV := V_le hr
  have hti : ti ≤ ti' := by rw [← h.tiv, ← h'.tiv]; exact Nat.div_le_div_right hV
  have hl' := h'.at_.le
  rcases Nat.lt_or_eq_of_le hti with hlt | rfl
  · exact Int.le_trans (b2 (by omega)) (Int.le_trans (hL.le (by omega) hl') c1)
  · by_cases hn : ti = n
    · rw [b3 hn, c3 hn]; exact Int.le_refl _
    · have ha := hL.at_ (i := ti) (by omega)
      have hb := hL.at_ (i := ti + 1) (by omega)
      have hab := val_le (hL.le (i := ti) (j := ti + 1) (by omega) (by omega))
      by_cases h1 : (FloatKind.f64.format.order f 0 == some .eq) = true ∨ ti = L.length - 1 ∨ rk (L.getD ti 0) = rk (L.getD (ti + 1) 0)
      · have e : quV L f ti = L.getD ti 0 := by unfold quV; rw [if_pos h1]; exact nf_mid ha
        rw [e]; exact c1
      · obtain ⟨F1, F2, F3, F4⟩ := f_facts h
        obtain ⟨G1, G2, G3, G4⟩ := f_facts h'
        have hmod : V r % pw 1074 ≤ V r' % pw 1074 := by
          have e1 := Nat.div_add_mod (V r) (pw 1074)
          have e2 := Nat.div_add_mod (V r') (pw 1074)
          rw [h.tiv] at e1
          rw [h'.tiv] at e2
          omega
        have hff : rg f ≤ rg f' := near_mono (by decide) (by decide) F4 G4 (by omega)
        have h2 : ¬ ((FloatKind.f64.format.order f' 0 == some .eq) = true ∨ ti = L.length - 1 ∨ rk (L.getD ti 0) = rk (L.getD (ti + 1) 0)) := by
          rintro (h3 | h3 | h3)
          · have : rg f' = 0 := by
              rw [ord_eq h'.at_.flt (by decide)] at h3
              simp only [Bool.and_eq_true, decide_eq_true_eq, show keyW 0 = 0 by decide] at h3
              have h4 := h3.2
              unfold keyW at h4
              cases hs : sgn f' <;> rw [hs] at h4 <;> simp at h4 <;> omega
            exact h1 (Or.inl (ford_zero_word h.at_.flt (by omega)))
          · exact h1 (Or.inr (Or.inl h3))
          · exact h1 (Or.inr (Or.inr h3))
        obtain ⟨rt, z, x, hx, ht, hrr, -⟩ := qv_form ha hb hab h.at_.flt F1 F2 F3
        obtain ⟨rt', z', x', hx', ht', hrr', -⟩ := qv_form ha hb hab h'.at_.flt G1 G2 G3
        have e : quV L f ti = x := by unfold quV; rw [if_neg h1]; exact hx
        have e' : quV L f' ti = x' := by unfold quV; rw [if_neg h2]; exact hx'
        rw [e, e']
        have hrt : rt ≤ rt' := near_mono (pw_pos _) (pw_pos _) ht ht' (Nat.mul_le_mul_right _ (Nat.mul_le_mul_right _ (V_le hff)))
        have := V_le hrt
        exact round_le hrr hrr' (by omega)

/-- Least and greatest of a list's figures. -/
theorem lo_hi : ∀ (L : List Nat), (∀ x ∈ L, Mid x) → L ≠ [] → (foldM L).Lo ∈ L ∧ (foldM L).Hi ∈ L ∧ ∀ x ∈ L, rk (foldM L).Lo ≤ rk x ∧ rk x ≤ rk (foldM L).Hi := by
  suffices hs : ∀ k (L : List Nat), (∀ x ∈ L, Mid x) → k ≤ L.length → (k = 0 ∧ (foldM (L.take k)).Lo = 9218868437227405312 ∧ (foldM (L.take k)).Hi = 18442240474082181120) ∨ (0 < k ∧ (foldM (L.take k)).Lo ∈ L.take k ∧ (foldM (L.take k)).Hi ∈ L.take k ∧ ∀ x ∈ L.take k, rk (foldM (L.take k)).Lo ≤ rk x ∧ rk x ≤ rk (foldM (L.take k)).Hi) by
    intro L h hne
    have hl : 0 < L.length := List.length_pos_iff.2 hne
    rcases hs L.length L h (Nat.le_refl _) with ⟨h0, -⟩ | ⟨-, h1⟩
    · omega
    · rwa [List.take_length] at h1
  intro k
  induction k with
  | zero => exact fun L _ _ => Or.inl ⟨rfl, rfl, rfl⟩
  | succ k ih =>
    intro L hm hk
    right
    have hk' : k < L.length := by omega
    have hx := hm _ (gd_mem hk')
    have hnan : ¬ 9218868437227405312 < rg (L.getD k 0) := by have := hx.2; omega
    rw [foldM_take hk', take_snocF hk']
    generalize L.getD k 0 = x at *
    have eLo : (addM (foldM (L.take k)) x).Lo = leastW (foldM (L.take k)).Lo x := by unfold addM; rw [if_neg hnan]
    have eHi : (addM (foldM (L.take k)) x).Hi = mostW (foldM (L.take k)).Hi x := by unfold addM; rw [if_neg hnan]
    rw [eLo, eHi]
    refine ⟨by omega, ?_⟩
    have hxk : -9218868437227405313 < rk x ∧ rk x < 9218868437227405312 := by
      have := hx.2
      unfold rk
      rw [if_neg hnan]
      split <;> omega
    rcases ih L hm (by omega) with ⟨rfl, h1, h2⟩ | ⟨h0, h1, h2, h3⟩
    · have el : leastW (foldM (L.take 0)).Lo x = x := by
        unfold leastW
        rw [h1, show rk 9218868437227405312 = 9218868437227405312 by decide, if_neg (by omega)]
      have eh : mostW (foldM (L.take 0)).Hi x = x := by
        unfold mostW
        rw [h2, show rk 18442240474082181120 = -9218868437227405313 by decide, if_pos ⟨by omega, Or.inr (by omega)⟩]
      rw [el, eh]
      simp
    · have hmL := hm _ (List.mem_of_mem_take h2)
      have hnh : ¬ 9218868437227405312 < rg (foldM (L.take k)).Hi := by have := hmL.2; omega
      generalize (foldM (L.take k)).Lo = lo at *
      generalize (foldM (L.take k)).Hi = hi at *
      refine ⟨?_, ?_, fun y hy => ?_⟩
      · unfold leastW
        split
        · exact List.mem_append_left _ h1
        · simp
      · unfold mostW
        split
        · simp
        · exact List.mem_append_left _ h2
      · have hl : rk (leastW lo x) ≤ rk lo ∧ rk (leastW lo x) ≤ rk x := by unfold leastW; split <;> omega
        have hh : rk hi ≤ rk (mostW hi x) ∧ rk x ≤ rk (mostW hi x) := by
          unfold mostW
          by_cases c : rk hi < rk x
          · rw [if_pos ⟨by omega, Or.inr c⟩]; omega
          · rw [if_neg (by rintro ⟨-, h | h⟩; exact hnh h; exact c h)]; omega
        rcases List.mem_append.1 hy with hy | hy
        · have := h3 y hy
          omega
        · rw [List.mem_singleton.1 hy]
          omega
end Go.Proofs.Ytecbbdbeihiioaa
