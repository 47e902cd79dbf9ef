/- Contracts of spigotref03.Shift, Tick and Whole. -/
import Derived.Test.YtbpldplbkmabmaaDoorRlF
import Derived.Test.YtbpldplbkmabmaaDoorNatTi
import Derived.Test.YtbpldplbkmabmaaDoorNatQ
namespace Go.Proofs.YtbpldplbkmabmaaDoor
open Go.RowKit

theorem rquo_pw (va vb : Value) (na nb : Nat) (w : World) (ha : IsN w va na) (hb : IsN w vb nb) (h0 : 0 < nb) (hsa : na < pw 80000) (hsb : nb < pw 80000) :
    Calls Tryd.prog 90 #[va, vb] w (QuoRes w (na / nb) (na % nb)) := by
  have h1 := up_pw hsa (show 80000 ≤ 90000 by decide)
  have h2 := up_pw hsb (show 80000 ≤ 90000 by decide)
  exact quo_any va vb na nb w ha hb h0 h1 h2
theorem rplus_pw (va vb : Value) (na nb : Nat) (w : World) (ha : IsN w va na) (hb : IsN w vb nb) (hsa : na < pw 80000) (hsb : nb < pw 80000) :
    Calls Tryd.prog 92 #[va, vb] w (NatRes w (na + nb)) := by
  have h1 := up_pw hsa (show 80000 ≤ 100000 by decide)
  have h2 := up_pw hsb (show 80000 ≤ 100000 by decide)
  exact plus_any va vb na nb w ha hb h1 h2
theorem rtimes_pw (va vb : Value) (na nb : Nat) (w : World) (ha : IsN w va na) (hb : IsN w vb nb) (hsa : na < pw 80000) (hsb : nb < pw 80000) :
    Calls Tryd.prog 62 #[va, vb] w (NatRes w (na * nb)) := by
  have h1 := up_pw hsa (show 80000 ≤ 100000 by decide)
  have h2 := up_pw hsb (show 80000 ≤ 100000 by decide)
  exact times_any va vb na nb w ha hb h1 h2
theorem rleft_pw (va : Value) (na n : Nat) (w : World) (ha : IsN w va na) (hsa : na < pw 80000) (hn : n ≤ 1000000) :
    Calls Tryd.prog 87 #[va, .int .i64 n] w (NatRes w (na * 2 ^ n)) := by
  have h1 := up_pw hsa (show 80000 ≤ 1000000 by decide)
  exact left_any va na n w ha h1 hn

def PairRes (w : World) (a c : Nat) (e : Ending) (w' : World) : Prop := ∃ v1 v2, e = .returned (.tuple #[v1, v2]) ∧ IsN w' v1 a ∧ IsN w' v2 c ∧ Below w.heap.size w w'

theorem shift_up (v : Value) (n k : Nat) (w : World) (h : IsN w v n) (hn : n < pw 80000) (hk : k ≤ 100000) :
    Calls Tryd.prog 58 #[v, .int .i64 k] w (PairRes w (n * 2 ^ k) 1) := by
  have H := Lib.hid h; have Hn := Lib.hid hn
  have Kl := Lib.hid (fun v' W (h : IsN W v' n) => rleft_pw v' n k W h Hn.out (by omega))
  have Kw := Lib.hid (fun W => word_any 1 W (by decide))
  clear h hn Hn
  go_enter Tryd.func58, Tryd.ntmps58
  go_wp2_with fail
  with_reducible refine (Kl.out _ _ H.out).mono ?_
  rintro e w1 ⟨v1, rfl, hv1, hb1⟩
  have Hv1 := Lib.hid hv1; have Hb1 := Lib.hid hb1
  clear hv1 hb1
  go_wp2_with fail
  refine (Kw.out _).mono ?_
  rintro e w2 ⟨v2, rfl, hv2, hb2⟩
  have Hv2 := Lib.hid hv2; have Hv1' := Lib.hid (Hv1.out.later hb2); have Hb2 := Lib.hid (Hb1.out.trans (hb2.mono Hb1.out.size))
  clear hv2 hb2
  go_wp2
  go_ret2
  exact ⟨_, _, rfl, Hv1'.out, Hv2.out, Hb2.out⟩

theorem shift_down (v : Value) (n k : Nat) (w : World) (h : IsN w v n) (hk0 : 0 < k) (hk : k ≤ 100000) :
    Calls Tryd.prog 58 #[v, .int .i64 (-(k : Int))] w (PairRes w n (1 * 2 ^ k)) := by
  have H := Lib.hid h
  have Kl := Lib.hid (fun v' W (h : IsN W v' 1) => rleft_pw v' 1 k W h (one_lt_pw (by decide)) (by omega))
  have Kw := Lib.hid (fun W => word_any 1 W (by decide))
  clear h
  go_enter Tryd.func58, Tryd.ntmps58
  go_wp2_with fail
  refine (Kw.out _).mono ?_
  rintro e w1 ⟨v1, rfl, hv1, hb1⟩
  have Hv1 := Lib.hid hv1; have Hb1 := Lib.hid hb1; have H1 := Lib.hid (H.out.later hb1)
  clear hv1 hb1
  go_wp2_with fail
  with_reducible refine (Kl.out _ _ Hv1.out).mono ?_
  rintro e w2 ⟨v2, rfl, hv2, hb2⟩
  have Hv2 := Lib.hid hv2; have H2 := Lib.hid (H1.out.later hb2); have Hb2 := Lib.hid (Hb1.out.trans (hb2.mono Hb1.out.size))
  clear hv2 hb2
  go_wp2
  go_ret2
  exact ⟨_, _, rfl, H2.out, Hv2.out, Hb2.out⟩

theorem dec_max (x : Nat) : decide ((x : Int) ≤ 4611686018427387903) = decide (x ≤ 4611686018427387903) := by
  by_cases h : x ≤ 4611686018427387903
  · rw [decide_eq_true h]; simp; omega
  · rw [decide_eq_false h]; simp; omega

theorem tick_ref (v : Value) (n : Nat) (w : World) (h : IsN w v n) :
    Calls Tryd.prog 60 #[v] w (WholeRes w n) := by
  have K := Lib.hid (fits_any v n w h)
  clear h
  go_enter Tryd.func60, Tryd.ntmps60
  go_wp2_with fail
  refine K.out.mono ?_
  rintro e w1 ⟨x, rfl, hx, hxl, nd, rfl⟩
  by_cases h1 : n < 18446744073709551616
  · obtain rfl := hx h1
    rw [decide_eq_true h1]
    by_cases h2 : x ≤ 4611686018427387903
    · have H2 := Lib.hid h2
      have h3 : (x : Int) ≤ 4611686018427387903 := by omega
      clear hx h1 h2
      go_wp2
      go_ret2
      exact whole_end rfl rfl (decide_eq_true H2.out).symm (fun _ => rfl) (below_drewN (Below.refl _ _) _)
    · have H2 := Lib.hid h2
      clear hx h1 h2
      go_wp2
      go_ret2
      exact whole_end rfl rfl (dec_max x) (fun h => absurd h H2.out) (below_drewN (Below.refl _ _) _)
  · rw [decide_eq_false h1]
    have Hno := Lib.hid (show ¬ n ≤ 4611686018427387903 by omega)
    clear hx h1
    go_wp2
    go_ret2
    exact whole_end rfl rfl (decide_eq_false Hno.out).symm (fun h => absurd h Hno.out) (below_drewN (Below.refl _ _) _)

theorem isN_parity {w : World} {a : Option Addr} {l : List Nat} {c : Nat} {n : Nat} (h : IsN w (.slice a l.length c) n) : (l.length = 0 ∧ n = 0) ∨ (0 < l.length ∧ ∃ b off d, a = some ⟨b, off, none⟩ ∧ w.cell? ⟨b, off, none⟩ = some (.int .u64 (d : Nat)) ∧ d % 2 = n % 2 ∧ d < 4294967296) := by
  obtain ⟨l', ⟨a', c', he, _, _, hr⟩, hn, hv⟩ := h
  simp only [Value.slice.injEq] at he
  obtain ⟨rfl, hl, rfl⟩ := he
  cases l' with
  | nil => exact Or.inl ⟨by simpa using hl, by rw [← hv]; rfl⟩
  | cons d t =>
    obtain ⟨b, off, rfl, hc⟩ := hr (by simp)
    have h0 := hc 0 (by simp)
    refine Or.inr ⟨by rw [hl]; simp, b, off, d, rfl, by simpa using h0, ?_, hn.1 d (List.mem_cons_self ..)⟩
    rw [← hv]
    simp only [valL]
    omega

theorem upN_of (na nb how : Nat) : upN na nb how = ((decide (how = 1) && decide (0 < na % nb)) || (decide (how = 2) && (decide (0 < cmpI (na % nb + na % nb) nb) || (decide (cmpI (na % nb + na % nb) nb = 0) && decide (na / nb % 2 = 1))))) := by
  unfold upN
  rw [show na % nb + na % nb = 2 * (na % nb) by omega]
  rcases Nat.lt_trichotomy (2 * (na % nb)) nb with h | h | h
  · rw [cmpI_lt h, decide_eq_false (show ¬ nb < 2 * (na % nb) by omega), decide_eq_false (show ¬ 2 * (na % nb) = nb by omega)]; rfl
  · rw [h, cmpI_eq, decide_eq_false (show ¬ nb < nb by omega)]; simp
  · rw [cmpI_gt h, decide_eq_true h]; rfl

set_option maxHeartbeats 8000000 in
theorem rwhole_any (va vb : Value) (na nb how : Nat) (w : World) (ha : IsN w va na) (hb : IsN w vb nb) (h0 : 0 < nb) (hsa : na < pw 70000) (hsb : nb < pw 70000) (hh : how ≤ 2) :
    Calls Tryd.prog 61 #[va, vb, .int .i64 how] w (NatRes w (wholeN na nb how)) := by
  have hW : wholeN na nb how = na / nb + (upN na nb how).toNat := rfl
  rw [hW, upN_of]
  have hrb : na % nb < nb := Nat.mod_lt _ h0
  have hqn : na / nb ≤ na := Nat.div_le_self _ _
  have K := Lib.hid (rquo_pw va vb na nb w ha hb h0 (le_pw hsa (by decide)) (le_pw hsb (by decide)))
  have HB := Lib.hid hb
  have Kp := Lib.hid (fun u v (h : IsN v u (na % nb)) => rplus_pw u u (na % nb) (na % nb) v h h (le_pw (Nat.lt_trans hrb hsb) (by decide)) (le_pw (Nat.lt_trans hrb hsb) (by decide)))
  have Kc := Lib.hid (fun u u' v (h : IsN v u (na % nb + na % nb)) (h' : IsN v u' nb) => compare_any u u' _ _ v h h')
  have Kw := Lib.hid (fun v => word_any 1 v (by decide))
  have K1 := Lib.hid (fun u u' v (h : IsN v u (na / nb)) (h' : IsN v u' 1) => rplus_pw u u' (na / nb) 1 v h h' (le_pw (Nat.lt_of_le_of_lt hqn hsa) (by decide)) (one_lt_pw (by decide)))
  clear ha hb h0 hsa hsb hW hrb hqn
  generalize cmpI (na % nb + na % nb) nb = cm at *
  generalize hq : na / nb = q at *
  generalize na % nb = r at *
  clear hq
  obtain ⟨n, hn⟩ : ∃ n, n = q + ((decide (how = 1) && decide (0 < r)) || (decide (how = 2) && (decide (0 < cm) || (decide (cm = 0) && decide (q % 2 = 1))))).toNat := ⟨_, rfl⟩
  rw [← hn]
  have Hn := Lib.hid hn
  clear hn
  go_enter Tryd.func61, Tryd.ntmps61
  go_wp2_with fail
  refine K.out.mono ?_
  rintro e w1 ⟨v1, v2, rfl, hv1, hv2, hb1⟩
  have HB1 := Lib.hid (HB.out.later hb1)
  have Hb1 := Lib.hid hb1
  have Hv1 := Lib.hid hv1; have Hv2 := Lib.hid hv2
  clear hb1 hv1 hv2
  go_wp2_with fail
  refine (Kp.out _ _ Hv2.out).mono ?_
  rintro e w2 ⟨t, rfl, ht, hb2⟩
  have HB2 := Lib.hid (HB1.out.later hb2); have Ht := Lib.hid ht; have Hb2 := Lib.hid (Hb1.out.trans (hb2.mono Hb1.out.size))
  have Hv1' := Lib.hid (Hv1.out.later hb2); have Hv2' := Lib.hid (Hv2.out.later hb2)
  clear ht hb2
  go_wp2_with fail
  refine (Kc.out _ _ _ Ht.out HB2.out).mono ?_
  rintro e w3 ⟨rfl, n3, rfl⟩
  have Hb3 := Lib.hid (below_drewN Hb2.out n3)
  have hv1 := Hv1'.out.later (below_drewN (Below.refl w2.heap.size w2) n3)
  have hv2 := Hv2'.out.later (below_drewN (Below.refl w2.heap.size w2) n3)
  have HV1 := Lib.hid hv1
  clear K Kp Kc HB HB1 HB2 Hv1 Hv2 Ht Hb1 Hb2 Hv1' Hv2'
  generalize w2.drewN n3 = W at *
  have h1' := hv1
  have h2' := hv2
  obtain ⟨l, ⟨a1, c1, rfl, hl1, hc1, -⟩, -, -⟩ := hv1
  obtain ⟨l2, ⟨a2, c2, rfl, hl2, hc2, -⟩, -, -⟩ := hv2
  have hlen2 := isN_len h2'
  have hpar := isN_parity h1'
  have hlb1 : l.length ≤ 9223372036854775807 := by unfold maxLen at hc1; omega
  have hlb2 : l2.length ≤ 9223372036854775807 := by unfold maxLen at hc2; omega
  clear hl1 hc1 hl2 hc2 h1' h2'
  generalize l.length = L1 at *
  generalize l2.length = L2 at *
  have Hlen2 := Lib.hid hlen2
  clear hlen2
  have hno : Hid (n = q → NatRes w n (.returned (.slice a1 L1 c1)) W) := Lib.hid fun h => ⟨_, rfl, by rw [h]; exact HV1.out, Hb3.out⟩
  have hyes : Hid (∀ (u : Value) (W' : World), n = q + 1 → IsN W' u (q + 1) → Below W.heap.size W W' → NatRes w n (.returned u) W') := Lib.hid fun u W' h hu hb => ⟨_, rfl, by rw [h]; exact hu, Hb3.out.trans (hb.mono Hb3.out.size)⟩
  rcases (show how = 0 ∨ how = 1 ∨ how = 2 by omega) with rfl | rfl | rfl
  · have Hq : Hid (n = q) := Lib.hid (by rw [Hn.out]; rfl)
    clear Hn hh Hlen2
    rcases hpar with ⟨rfl, -⟩ | ⟨hL, b, off, d, rfl, hc, -, hdl⟩
    · go_wp2
      go_ret
      exact hno.out Hq.out
    · go_wp2
      go_ret
      exact hno.out Hq.out
  · by_cases hr : 0 < r
    · have hL2 : 0 < L2 := by have h := Hlen2.out; rw [decide_eq_true hr] at h; simpa using h
      have Hq : Hid (n = q + 1) := Lib.hid (by rw [Hn.out, decide_eq_true hr]; rfl)
      clear Hn hh hr Hlen2
      rcases hpar with ⟨rfl, -⟩ | ⟨hL, b, off, d, rfl, hc, -, hdl⟩
      all_goals
        go_wp2_with fail
        refine (Kw.out _).mono ?_
        rintro e w4 ⟨o1, rfl, ho, hb4⟩
        have Ho := Lib.hid ho; have HV := Lib.hid (HV1.out.later hb4); have Hb4 := Lib.hid hb4
        clear ho hb4
        go_wp2_with fail
        refine (K1.out _ _ _ HV.out Ho.out).mono ?_
        rintro e w5 ⟨o2, rfl, ho2, hb5⟩
        have Ho2 := Lib.hid ho2; have Hb5 := Lib.hid (Hb4.out.trans (hb5.mono Hb4.out.size))
        clear ho2 hb5
        go_wp2
        go_ret
        exact hyes.out _ _ Hq.out Ho2.out Hb5.out
    · have hL2 : L2 = 0 := by have h := Hlen2.out; rw [decide_eq_false hr] at h; simpa using h
      have Hq : Hid (n = q) := Lib.hid (by rw [Hn.out, decide_eq_false hr]; rfl)
      subst hL2
      clear Hn hh hr Hlen2
      rcases hpar with ⟨rfl, -⟩ | ⟨hL, b, off, d, rfl, hc, -, hdl⟩
      all_goals
        go_wp2
        go_ret
        exact hno.out Hq.out
  · by_cases hc1 : 0 < cm
    · have Hq : Hid (n = q + 1) := Lib.hid (by rw [Hn.out, decide_eq_true hc1]; simp)
      clear Hn hh Hlen2
      rcases hpar with ⟨rfl, -⟩ | ⟨hL, b, off, d, rfl, hc, -, hdl⟩
      all_goals
        go_wp2_with fail
        refine (Kw.out _).mono ?_
        rintro e w4 ⟨o1, rfl, ho, hb4⟩
        have Ho := Lib.hid ho; have HV := Lib.hid (HV1.out.later hb4); have Hb4 := Lib.hid hb4
        clear ho hb4
        go_wp2_with fail
        refine (K1.out _ _ _ HV.out Ho.out).mono ?_
        rintro e w5 ⟨o2, rfl, ho2, hb5⟩
        have Ho2 := Lib.hid ho2; have Hb5 := Lib.hid (Hb4.out.trans (hb5.mono Hb4.out.size))
        clear ho2 hb5
        go_wp2
        go_ret
        exact hyes.out _ _ Hq.out Ho2.out Hb5.out
    · by_cases hc2 : cm = 0
      · subst hc2
        rcases hpar with ⟨rfl, hq0⟩ | ⟨hL, b, off, d, rfl, hc, hpd, hdl⟩
        · have Hq : Hid (n = q) := Lib.hid (by rw [Hn.out, decide_eq_false (show ¬ q % 2 = 1 by omega)]; simp)
          clear Hn hh Hlen2 hq0
          go_wp2
          go_ret
          exact hno.out Hq.out
        · by_cases ho : q % 2 = 1
          · have Hq : Hid (n = q + 1) := Lib.hid (by rw [Hn.out, decide_eq_true ho]; simp)
            have ho' : ((d : Int) % 2 == 1) = true := by simp; omega
            clear Hn hh Hlen2 ho hpd
            go_wp2_with fail
            refine (Kw.out _).mono ?_
            rintro e w4 ⟨o1, rfl, ho, hb4⟩
            have Ho := Lib.hid ho; have HV := Lib.hid (HV1.out.later hb4); have Hb4 := Lib.hid hb4
            clear ho hb4
            go_wp2_with fail
            refine (K1.out _ _ _ HV.out Ho.out).mono ?_
            rintro e w5 ⟨o2, rfl, ho2, hb5⟩
            have Ho2 := Lib.hid ho2; have Hb5 := Lib.hid (Hb4.out.trans (hb5.mono Hb4.out.size))
            clear ho2 hb5
            go_wp2
            go_ret
            exact hyes.out _ _ Hq.out Ho2.out Hb5.out
          · have Hq : Hid (n = q) := Lib.hid (by rw [Hn.out, decide_eq_false ho]; simp)
            have ho' : ((d : Int) % 2 == 1) = false := by simp; omega
            clear Hn hh Hlen2 ho hpd
            go_wp2
            go_ret
            exact hno.out Hq.out
      · have Hq : Hid (n = q) := Lib.hid (by rw [Hn.out, decide_eq_false hc1, decide_eq_false hc2]; simp)
        have hc3 : (cm == 0) = false := by simp; omega
        clear Hn hh Hlen2 hc2
        rcases hpar with ⟨rfl, -⟩ | ⟨hL, b, off, d, rfl, hc, -, hdl⟩
        all_goals
          go_wp2
          go_ret
          exact hno.out Hq.out
end Go.Proofs.YtbpldplbkmabmaaDoor
