/- Contracts of real.Whole and real.Ticks. -/
import Derived.Test.YtbpldplbkmabmaaDoorRlD
namespace Go.Proofs.YtbpldplbkmabmaaDoor
open Go.RowKit

/-- Is it rounded up? -/
def upN (a b how : Nat) : Bool := (decide (how = 1) && decide (0 < a % b)) || (decide (how = 2) && (decide (b < 2 * (a % b)) || (decide (2 * (a % b) = b) && decide (a / b % 2 = 1))))
/-- a over b, rounded: down (0), up (1), to the nearest (2). -/
def wholeN (a b how : Nat) : Nat := a / b + (upN a b how).toNat

theorem whole_scale (a b how k : Nat) (hk : 0 < k) : wholeN (a * k) (b * k) how = wholeN a b how := by
  have e1 : a * k / (b * k) = a / b := Nat.mul_div_mul_right _ _ hk
  have e2 : a * k % (b * k) = a % b * k := Nat.mul_mod_mul_right ..
  have e3 : decide (0 < a % b * k) = decide (0 < a % b) := by
    by_cases h : 0 < a % b
    · rw [decide_eq_true h, decide_eq_true (Nat.mul_pos h hk)]
    · rw [decide_eq_false h, show a % b = 0 by omega]; simp
  have e4 : decide (b * k < 2 * (a % b * k)) = decide (b < 2 * (a % b)) := by
    rw [← Nat.mul_assoc]
    by_cases h : b < 2 * (a % b)
    · rw [decide_eq_true h, decide_eq_true (Nat.mul_lt_mul_of_pos_right h hk)]
    · rw [decide_eq_false h, decide_eq_false (fun h' => h (Nat.lt_of_mul_lt_mul_right h'))]
  have e5 : decide (2 * (a % b * k) = b * k) = decide (2 * (a % b) = b) := by
    rw [← Nat.mul_assoc]
    by_cases h : 2 * (a % b) = b
    · rw [decide_eq_true h, decide_eq_true (by rw [h])]
    · rw [decide_eq_false h, decide_eq_false (fun h' => h (Nat.mul_right_cancel hk h'))]
  unfold wholeN upN
  rw [e1, e2, e3, e4, e5]

theorem whole_ratio {a b a' b' : Nat} (how : Nat) (hb : 0 < b) (hb' : 0 < b') (h : a * b' = a' * b) : wholeN a b how = wholeN a' b' how := by
  rw [← whole_scale a b how b' hb', ← whole_scale a' b' how b hb, h, Nat.mul_comm b b']

def WholeRes (w : World) (n : Nat) (e : Ending) (w' : World) : Prop := ∃ x : Int, e = .returned (.tuple #[.int .i64 x, .bool (decide (n ≤ 4611686018427387903))]) ∧ (n ≤ 4611686018427387903 → x = (n : Int)) ∧ Below w.heap.size w w'

theorem bits_big {a b : Nat} (hb : 0 < b) (h : bitLen b + 63 < bitLen a) : 9223372036854775808 ≤ a / b := by
  have h1 := (bitLen_spec a).2 (by intro h0; subst h0; simp [bitLen] at h)
  have h2 := (bitLen_spec b).1
  rw [Nat.le_div_iff_mul_le hb]
  have h3 : 2 ^ (bitLen b + 63) ≤ 2 ^ (bitLen a - 1) := Nat.pow_le_pow_right (by decide) (by omega)
  rw [Nat.pow_add, show (2 : Nat) ^ 63 = 9223372036854775808 from by decide] at h3
  have h4 : b * 9223372036854775808 ≤ 2 ^ bitLen b * 9223372036854775808 := Nat.mul_le_mul_right _ (Nat.le_of_lt h2)
  omega

theorem bits_fit {a b : Nat} (hb : 0 < b) (h : bitLen a ≤ bitLen b + 63) : a / b < 18446744073709551616 := by
  have := quo_start (na := a) hb h
  rw [Nat.div_lt_iff_lt_mul hb, Nat.mul_comm]
  rw [show 63 + 1 = 64 from rfl, show (2 : Nat) ^ 64 = 18446744073709551616 from by decide] at this
  exact this

theorem isN_len {w : World} {a : Option Addr} {l : List Nat} {c : Nat} {n : Nat} (h : IsN w (.slice a l.length c) n) : decide ((0 : Int) < (l.length : Int)) = decide (0 < n) := by
  obtain ⟨l', ⟨a', c', he, _, _, _⟩, hn, hv⟩ := h
  simp only [Value.slice.injEq] at he
  rw [he.2.1]
  by_cases h0 : l'.length = 0
  · have : l' = [] := List.eq_nil_of_length_eq_zero h0
    subst this
    rw [← hv]; rfl
  · have h1 := norm_ge hn (by omega)
    have h2 : 0 < 4294967296 ^ (l'.length - 1) := Nat.pow_pos (by decide)
    rw [decide_eq_true (by omega), decide_eq_true (by omega)]

theorem up_pw {n m k : Nat} (h : n < pw m) (hk : m ≤ k) : n < 2 ^ k := Nat.lt_of_lt_of_le h (Nat.pow_le_pow_right (by decide) hk)

theorem whole_end {w w' : World} {n q : Nat} {x : Int} {bb : Bool} {e : Ending} (he : e = .returned (.tuple #[.int .i64 x, .bool bb])) (hn : n = q) (hb : bb = decide (q ≤ 4611686018427387903)) (hx : q ≤ 4611686018427387903 → x = q) (hbel : Below w.heap.size w w') : WholeRes w n e w' := by
  subst hn hb
  exact ⟨x, he, hx, hbel⟩

theorem dec_cast (q : Nat) : decide ((q : Int) + 1 ≤ 4611686018427387903) = decide (q + 1 ≤ 4611686018427387903) := by
  by_cases h : q + 1 ≤ 4611686018427387903
  · rw [decide_eq_true h]; simp; omega
  · rw [decide_eq_false h]; simp; omega

set_option maxHeartbeats 8000000 in
theorem whole_any (va vb : Value) (na nb how : Nat) (w : World) (ha : IsN w va na) (hb : IsN w vb nb) (h0 : 0 < nb) (hsa : na < pw 80000) (hsb : nb < pw 80000) (hh : how ≤ 2) :
    Calls Tryd.prog 55 #[va, vb, .int .i64 how] w (WholeRes w (wholeN na nb how)) := by
  have hsa' := up_pw hsa (show 80000 ≤ 90000 by decide)
  have hsb' := up_pw hsb (show 80000 ≤ 90000 by decide)
  by_cases hbig : bitLen nb + 63 < bitLen na
  · have K := Lib.hid (pquo_no va vb na nb w ha hb hsa' hsb' hbig)
    have hge := bits_big h0 hbig
    have hw : ¬ wholeN na nb how ≤ 4611686018427387903 := by unfold wholeN; omega
    have Hw := Lib.hid hw
    clear ha hb h0 hsa hsb hh hsa' hsb' hbig hge hw
    go_enter Tryd.func55, Tryd.ntmps55
    go_wp2_with (go_at_call 80; (with_reducible refine K.out.mono ?_); rintro e w' ⟨rfl, rfl⟩)
    go_ret2
    exact ⟨0, by rw [decide_eq_false Hw.out]; rfl, fun h => absurd h Hw.out, Below.refl _ _⟩
  · have hq := bits_fit (a := na) h0 (by omega)
    have K := Lib.hid (pquo_yes va vb na nb w ha hb h0 hsa' hsb' (by omega) hq)
    have HB := Lib.hid hb
    have hrb : na % nb < nb := Nat.mod_lt _ h0
    have hsb6 := up_pw hsb (show 80000 ≤ 1000000 by decide)
    have Kl := Lib.hid (fun u v (h : IsN v u (na % nb)) => pleft_any u (na % nb) 1 v h (Nat.lt_trans hrb hsb6) (by decide))
    clear hsb6
    have Kc := Lib.hid (fun u u' v (h : IsN v u (na % nb * 2 ^ 1)) (h' : IsN v u' nb) => pcompare_any u u' _ _ v h h')
    have hW : wholeN na nb how = na / nb + (upN na nb how).toNat := rfl
    have hU : upN na nb how = ((decide (how = 1) && decide (0 < na % nb)) || (decide (how = 2) && (decide (0 < cmpI (na % nb * 2 ^ 1) nb) || (decide (cmpI (na % nb * 2 ^ 1) nb = 0) && decide (na / nb % 2 = 1))))) := by
      unfold upN
      rw [show na % nb * 2 ^ 1 = 2 * (na % nb) by omega]
      rcases Nat.lt_trichotomy (2 * (na % nb)) nb with h | h | h
      · rw [cmpI_lt h, decide_eq_false (show ¬ nb < 2 * (na % nb) by omega), decide_eq_false (show ¬ 2 * (na % nb) = nb by omega)]; rfl
      · rw [h, cmpI_eq, decide_eq_false (show ¬ nb < nb by omega)]; simp
      · rw [cmpI_gt h, decide_eq_true h]; rfl
    rw [hW, hU]
    clear ha hb h0 hsa hsb hsa' hsb' hbig hW hU hrb
    generalize cmpI (na % nb * 2 ^ 1) nb = cm at *
    generalize na / nb = q at *
    generalize na % nb = r at *
    obtain ⟨n, hn⟩ : ∃ n, n = q + ((decide (how = 1) && decide (0 < r)) || (decide (how = 2) && (decide (0 < cm) || (decide (cm = 0) && decide (q % 2 = 1))))).toNat := ⟨_, rfl⟩
    rw [← hn]
    have Hn := Lib.hid hn
    clear hn
    by_cases hmax : q ≤ 4611686018427387903
    · go_enter Tryd.func55, Tryd.ntmps55
      go_wp2_with fail
      refine K.out.mono ?_
      rintro e w1 ⟨v, rfl, hv, hb1⟩
      have HB1 := Lib.hid (HB.out.later hb1)
      have Hb1 := Lib.hid hb1
      have Hv := Lib.hid hv
      obtain ⟨l, ⟨ar, cr, rfl, hl, hc, hr⟩, hn, hval⟩ := hv
      have hlen := isN_len Hv.out
      have hlb : l.length ≤ 9223372036854775807 := by unfold maxLen at hc; omega
      clear hb1 hl hc hr hn hval
      generalize l.length = L at *
      go_wp2_with fail
      refine (Kl.out _ _ Hv.out).mono ?_
      rintro e w2 ⟨t, rfl, ht, hb2⟩
      have HB2 := Lib.hid (HB1.out.later hb2); have Ht := Lib.hid ht; have Hb2 := Lib.hid (Hb1.out.trans (hb2.mono Hb1.out.size))
      clear ht hb2
      go_wp2_with fail
      refine (Kc.out _ _ _ Ht.out HB2.out).mono ?_
      rintro e w3 ⟨rfl, n3, rfl⟩
      have Hb3 := Lib.hid (below_drewN Hb2.out n3)
      clear K Kl Kc HB HB1 HB2 Hv Ht Hb1 Hb2
      have Hlen := Lib.hid hlen
      clear hlen
      have hend0 : Hid (∀ (x : Int) (bb : Bool), n = q → bb = true → x = q → WholeRes w n (.returned (.tuple #[.int .i64 x, .bool bb])) (w2.drewN n3)) := Lib.hid fun x bb h1 h2 h3 => whole_end rfl h1 (by rw [h2, decide_eq_true hmax]) (fun _ => h3) Hb3.out
      have hend1 : Hid (∀ (x : Int) (bb : Bool), n = q + 1 → bb = decide (q + 1 ≤ 4611686018427387903) → x = q + 1 → WholeRes w n (.returned (.tuple #[.int .i64 x, .bool bb])) (w2.drewN n3)) := Lib.hid fun x bb h1 h2 h3 => whole_end rfl h1 h2 (fun _ => h3) Hb3.out
      rcases (show how = 0 ∨ how = 1 ∨ how = 2 by omega) with rfl | rfl | rfl
      · have Hq : Hid (n = q) := Lib.hid (by rw [Hn.out]; rfl)
        clear Hn hh
        go_wp2
        go_ret2
        exact hend0.out _ _ Hq.out rfl rfl
      · by_cases hr : 0 < r
        · have hL : 0 < L := by have h := Hlen.out; rw [decide_eq_true hr] at h; simpa using h
          have Hq : Hid (n = q + 1) := Lib.hid (by rw [Hn.out, decide_eq_true hr]; rfl)
          clear Hn hh hr Hlen
          go_wp2
          go_ret2
          exact hend1.out _ _ Hq.out (dec_cast q) rfl
        · have hL : L = 0 := by have h := Hlen.out; rw [decide_eq_false hr] at h; simpa using h
          have Hq : Hid (n = q) := Lib.hid (by rw [Hn.out, decide_eq_false hr]; rfl)
          subst hL
          clear Hn hh hr Hlen
          go_wp2
          go_ret2
          exact hend0.out _ _ Hq.out rfl rfl
      · by_cases hc1 : 0 < cm
        · have Hq : Hid (n = q + 1) := Lib.hid (by rw [Hn.out, decide_eq_true hc1]; simp)
          clear Hn hh Hlen
          go_wp2
          go_ret2
          exact hend1.out _ _ Hq.out (dec_cast q) rfl
        · by_cases hc2 : cm = 0
          · subst hc2
            by_cases ho : q % 2 = 1
            · have Hq : Hid (n = q + 1) := Lib.hid (by rw [Hn.out, decide_eq_true ho]; simp)
              have ho' : ((q : Int) % 2 == 1) = true := by simp; omega
              clear Hn hh Hlen ho
              go_wp2
              go_ret2
              exact hend1.out _ _ Hq.out (dec_cast q) rfl
            · have Hq : Hid (n = q) := Lib.hid (by rw [Hn.out, decide_eq_false ho]; simp)
              have ho' : ((q : Int) % 2 == 1) = false := by simp; omega
              clear Hn hh Hlen ho
              go_wp2
              go_ret2
              exact hend0.out _ _ Hq.out rfl rfl
          · have Hq : Hid (n = q) := Lib.hid (by rw [Hn.out, decide_eq_false hc1, decide_eq_false hc2]; simp)
            have hc3 : (cm == 0) = false := by simp; omega
            clear Hn hh Hlen hc2
            go_wp2
            go_ret2
            exact hend0.out _ _ Hq.out rfl rfl
    · have hmax' : (4611686018427387903 : Int) < (q : Int) := by omega
      have Hno : Hid (¬ n ≤ 4611686018427387903) := Lib.hid (by rw [Hn.out]; omega)
      clear hmax Hn
      go_enter Tryd.func55, Tryd.ntmps55
      go_wp2_with fail
      refine K.out.mono ?_
      rintro e w1 ⟨v, rfl, hv, hb1⟩
      have Hb1 := Lib.hid hb1
      clear hb1 hv
      go_wp2
      go_ret2
      exact ⟨0, by rw [decide_eq_false Hno.out]; rfl, fun h => absurd h Hno.out, Hb1.out⟩
end Go.Proofs.YtbpldplbkmabmaaDoor
