/- Contracts of real.Over and real.Whole. -/
import Derived.Test.YtbpldplbkmabmaaDoorRlC
import Derived.Test.YtbpldplbkmabmaaDoorNpC
import Derived.Test.YtbpldplbkmabmaaDoorNpD
namespace Go.Proofs.YtbpldplbkmabmaaDoor
open Go.RowKit

def pw (k : Nat) : Nat := 2 ^ k
theorem pw_pos (k : Nat) : 0 < pw k := Nat.two_pow_pos k
theorem lt_pw {n m k : Nat} (h : n < 2 ^ m) (hk : m ≤ k) : n < pw k := Nat.lt_of_lt_of_le h (Nat.pow_le_pow_right (by decide) hk)
theorem pow_lt_pw {m k : Nat} (h : m < k) : 2 ^ m < pw k := Nat.pow_lt_pow_right (by decide) h
theorem one_lt_pw {k : Nat} (h : 0 < k) : 1 < pw k := by have := pow_lt_pw h; simpa using this

/-- A finite float as a over c. -/
def OverNat (r a c : Nat) : Prop := 0 < c ∧ a * pw 1074 = V r * c ∧ a < pw 2000 ∧ c < pw 2000
def OverRes (w : World) (r : Nat) (e : Ending) (w' : World) : Prop := ∃ v1 v2 a c, e = .returned (.tuple #[v1, v2]) ∧ IsN w' v1 a ∧ IsN w' v2 c ∧ OverNat r a c ∧ Below w.heap.size w w'

theorem odd_form (n : Nat) : 0 < n → ∃ o t, o % 2 = 1 ∧ o * 2 ^ t = n ∧ o ≤ n ∧ t ≤ n := by
  induction n using Nat.strongRecOn with
  | ind n ih =>
    intro h
    by_cases ho : n % 2 = 1
    · exact ⟨n, 0, ho, by simp, Nat.le_refl _, by omega⟩
    · obtain ⟨o, t, h1, h2, h3, h4⟩ := ih (n / 2) (by omega) (by omega)
      exact ⟨o, t + 1, h1, by rw [Nat.pow_succ, ← Nat.mul_assoc, h2]; omega, by omega, by omega⟩

theorem odd_rung {r : Nat} (h0 : 0 < r) (h1 : r < 9218868437227405312) : ∃ o t, o % 2 = 1 ∧ o * 2 ^ t = V r ∧ o < 9007199254740992 ∧ t ≤ 2100 := by
  obtain ⟨hm0, hm1⟩ := numM_pos h0
  obtain ⟨o, t, ho, hv, hle, -⟩ := odd_form (numM r) hm0
  refine ⟨o, t + numE r, ho, ?_, by omega, ?_⟩
  · rw [Nat.pow_add, ← Nat.mul_assoc, hv, num_val]
  · have : t < 53 := by
      refine Nat.lt_of_not_le fun h => ?_
      have e1 : 2 ^ 53 ≤ 2 ^ t := Nat.pow_le_pow_right (by decide) h
      have e2 : 1 * 2 ^ t ≤ o * 2 ^ t := Nat.mul_le_mul_right _ (by omega)
      have e3 : (2 : Nat) ^ 53 = 9007199254740992 := by decide
      omega
    unfold numE
    omega

theorem over_up {o t r k : Nat} (hk : k = 1074) (hv : o * 2 ^ t = V r) (ho : o < 9007199254740992) (h : k ≤ t) (hb : t - k ≤ 1900) : OverNat r (o * 2 ^ (t - k)) 1 := by
  refine ⟨by decide, ?_, ?_, one_lt_pw (by decide)⟩
  · rw [← hk]
    unfold pw
    rw [Nat.mul_one, Nat.mul_assoc, ← Nat.pow_add, Nat.sub_add_cancel h, hv]
  · have e1 : o * 2 ^ (t - k) < 2 ^ 53 * 2 ^ (t - k) := Nat.mul_lt_mul_of_pos_right (by rw [show (2 : Nat) ^ 53 = 9007199254740992 from by decide]; exact ho) (Nat.two_pow_pos _)
    rw [← Nat.pow_add] at e1
    exact lt_pw e1 (by omega)

theorem over_down {o t r k : Nat} (hk : k = 1074) (hv : o * 2 ^ t = V r) (ho : o < 9007199254740992) (h : t < k) : OverNat r o (1 * 2 ^ (k - t)) := by
  refine ⟨by rw [Nat.one_mul]; exact Nat.two_pow_pos _, ?_, ?_, ?_⟩
  · rw [← hk]
    unfold pw
    rw [Nat.one_mul, ← hv, Nat.mul_assoc, ← Nat.pow_add, Nat.add_sub_cancel' (Nat.le_of_lt h)]
  · have e1 : o < 2 ^ 53 := by rw [show (2 : Nat) ^ 53 = 9007199254740992 from by decide]; exact ho
    exact lt_pw e1 (by decide)
  · rw [Nat.one_mul]
    exact pow_lt_pw (by omega)

theorem over_nil {k : Nat} : OverNat 0 (0 * 2 ^ k) 1 := ⟨by decide, by simp [V_zero], by rw [Nat.zero_mul]; exact pw_pos _, one_lt_pw (by decide)⟩

theorem lt_big (n k : Nat) (h : n < 18446744073709551616) (hk : 64 ≤ k) : n < 2 ^ k :=
  Nat.lt_of_lt_of_le (show n < 2 ^ 64 by rw [show (2 : Nat) ^ 64 = 18446744073709551616 from by decide]; exact h) (Nat.pow_le_pow_right (by decide) hk)

set_option maxHeartbeats 2000000 in
theorem over_any (b : Nat) (w : World) (hb : b < 18446744073709551616) (h1 : rg b < 9218868437227405312) (hT : Tab w) :
    Calls Tryd.prog 54 #[.float .f64 b] w (OverRes w (rg b)) := by
  have Kof := Lib.hid (fun n v h => pof_any n v h)
  have Kleft := Lib.hid (fun va na n v (h : IsN v va na) (hs : na < 18446744073709551616) hn => pleft_any va na n v h (lt_big na 1000000 hs (by decide)) hn)
  by_cases h0 : rg b = 0
  · have K := Lib.hid (fun v => exact_zero b v hb h0)
    rw [h0]
    have Hn := Lib.hid (@over_nil 0)
    clear h0 h1 hT
    go_enter Tryd.func54, Tryd.ntmps54
    go_wp2_with fail
    refine (K.out _).mono ?_
    rintro e w1 ⟨rfl, n1, rfl⟩
    go_wp2_with fail
    refine (Kof.out 0 _ (by decide)).mono ?_
    rintro e w2 ⟨v2, rfl, hv2, hb2⟩
    have Hv2 := Lib.hid hv2; have Hb2 := Lib.hid ((below_drewN (Below.refl w.heap.size w) n1).trans hb2)
    clear hv2 hb2
    go_wp2_with fail
    refine (Kleft.out _ 0 0 _ Hv2.out (by decide) (by decide)).mono ?_
    rintro e w3 ⟨v3, rfl, hv3, hb3⟩
    have Hv3 := Lib.hid hv3; have Hb3 := Lib.hid (Hb2.out.trans (hb3.mono Hb2.out.size))
    clear hv3 hb3
    go_wp2_with fail
    refine (Kof.out 1 _ (by decide)).mono ?_
    rintro e w4 ⟨v4, rfl, hv4, hb4⟩
    have Hv4 := Lib.hid hv4; have Hv3' := Lib.hid (Hv3.out.later hb4); have Hb4 := Lib.hid (Hb3.out.trans (hb4.mono Hb3.out.size))
    clear hv4 hb4
    go_wp2
    go_ret2
    exact ⟨_, _, _, _, rfl, Hv3'.out, Hv4.out, Hn.out, Hb4.out⟩
  · obtain ⟨o, t, ho, hv, hom, htm⟩ := odd_rung (show 0 < rg b by omega) h1
    have K := Lib.hid (fun v h => exact_some b o t v hb (by omega) h1 ho hv h)
    have HT := Lib.hid hT
    have hV : t - 1074 ≤ 1900 := by omega
    by_cases hn : 1074 ≤ t
    · have Hn := Lib.hid (over_up rfl hv hom hn hV)
      obtain ⟨k, hk⟩ : ∃ k : Nat, t = k + 1074 := ⟨t - 1074, by omega⟩
      subst hk
      rw [Nat.add_sub_cancel] at Hn
      have hk2 : k ≤ 1900 := by omega
      have e1 : ((k + 1074 : Nat) : Int) - 1074 = (k : Int) := by omega
      rw [e1] at K
      clear e1 h0 h1 hT hv ho hn hV htm
      go_enter Tryd.func54, Tryd.ntmps54
      go_wp2_with fail
      refine (K.out _ HT.out).mono ?_
      rintro e w1 ⟨rfl, n1, rfl⟩
      go_wp2_with fail
      refine (Kof.out o _ (by omega)).mono ?_
      rintro e w2 ⟨v2, rfl, hv2, hb2⟩
      have Hv2 := Lib.hid hv2; have Hb2 := Lib.hid ((below_drewN (Below.refl w.heap.size w) n1).trans hb2)
      clear hv2 hb2
      go_wp2_with fail
      refine (Kleft.out _ o k _ Hv2.out (by omega) (by omega)).mono ?_
      rintro e w3 ⟨v3, rfl, hv3, hb3⟩
      have Hv3 := Lib.hid hv3; have Hb3 := Lib.hid (Hb2.out.trans (hb3.mono Hb2.out.size))
      clear hv3 hb3
      go_wp2_with fail
      refine (Kof.out 1 _ (by decide)).mono ?_
      rintro e w4 ⟨v4, rfl, hv4, hb4⟩
      have Hv4 := Lib.hid hv4; have Hv3' := Lib.hid (Hv3.out.later hb4); have Hb4 := Lib.hid (Hb3.out.trans (hb4.mono Hb3.out.size))
      clear hv4 hb4
      go_wp2
      go_ret2
      exact ⟨_, _, _, _, rfl, Hv3'.out, Hv4.out, Hn.out, Hb4.out⟩
    · have Hn := Lib.hid (over_down rfl hv hom (show t < 1074 by omega))
      obtain ⟨k, hk⟩ : ∃ k : Nat, 1074 = k + t := ⟨1074 - t, by omega⟩
      rw [show 1074 - t = k by omega] at Hn
      have hk2 : k ≤ 1074 := by omega
      have hk3 : 0 < k := by omega
      have e1 : (t : Int) - 1074 = -(k : Int) := by omega
      rw [e1] at K
      clear e1 h0 h1 hT hv ho hn hV htm hk
      go_enter Tryd.func54, Tryd.ntmps54
      go_wp2_with fail
      refine (K.out _ HT.out).mono ?_
      rintro e w1 ⟨rfl, n1, rfl⟩
      go_wp2_with fail
      refine (Kof.out o _ (by omega)).mono ?_
      rintro e w2 ⟨v2, rfl, hv2, hb2⟩
      have Hv2 := Lib.hid hv2; have Hb2 := Lib.hid ((below_drewN (Below.refl w.heap.size w) n1).trans hb2)
      clear hv2 hb2
      go_wp2_with fail
      refine (Kof.out 1 _ (by decide)).mono ?_
      rintro e w3 ⟨v3, rfl, hv3, hb3⟩
      have Hv3 := Lib.hid hv3; have Hv2' := Lib.hid (Hv2.out.later hb3); have Hb3 := Lib.hid (Hb2.out.trans (hb3.mono Hb2.out.size))
      clear hv3 hb3
      go_wp2_with fail
      refine (Kleft.out _ 1 k _ Hv3.out (by decide) (by omega)).mono ?_
      rintro e w4 ⟨v4, rfl, hv4, hb4⟩
      have Hv4 := Lib.hid hv4; have Hv3' := Lib.hid (Hv2'.out.later hb4); have Hb4 := Lib.hid (Hb3.out.trans (hb4.mono Hb3.out.size))
      clear hv4 hb4
      go_wp2
      go_ret2
      exact ⟨_, _, _, _, rfl, Hv3'.out, Hv4.out, Hn.out, Hb4.out⟩
end Go.Proofs.YtbpldplbkmabmaaDoor
