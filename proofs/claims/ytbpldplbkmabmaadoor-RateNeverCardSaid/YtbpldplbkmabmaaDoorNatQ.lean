/- The contract of spigotref01.Quo: quotient and remainder. -/
import Derived.Test.YtbpldplbkmabmaaDoorNatC
import Derived.Test.YtbpldplbkmabmaaDoorNatM
namespace Go.Proofs.YtbpldplbkmabmaaDoor
open Go.RowKit

def QuoRes (w : World) (a b : Nat) (e : Ending) (w' : World) : Prop := ∃ v1 v2, e = .returned (.tuple #[v1, v2]) ∧ IsN w' v1 a ∧ IsN w' v2 b ∧ Below w.heap.size w w'

theorem isN_nil (w : World) : IsN w (.slice none 0 0) 0 := ⟨[], ⟨none, 0, rfl, Nat.le_refl _, by decide, fun h => absurd h (by decide)⟩, ⟨by simp, by simp⟩, rfl⟩

theorem norm_is (v : Value) (n : Nat) (w : World) (h : IsN w v n) : Calls Tryd.prog 88 #[v] w (NatRes w n) := by
  obtain ⟨l, hd, hn, rfl⟩ := h
  exact norm_N v l w hd hn.1

theorem pow_up {x m n : Nat} (h : x < 2 ^ m) (h' : m ≤ n) : x < 2 ^ n := Nat.lt_of_lt_of_le h (Nat.pow_le_pow_right (by decide) h')

theorem one_pow_lt {m n : Nat} (h : m < n) : 1 * 2 ^ m < 2 ^ n := by rw [Nat.one_mul]; exact Nat.pow_lt_pow_right (by decide) h

theorem quo_take {na nb q r m : Nat} (h : na = q * nb + r) (hr : r < nb * 2 ^ (m + 1)) (ht : nb * 2 ^ m ≤ r) : na = (q + 2 ^ m) * nb + (r - nb * 2 ^ m) ∧ r - nb * 2 ^ m < nb * 2 ^ m := by
  rw [Nat.pow_succ, ← Nat.mul_assoc] at hr
  refine ⟨?_, by omega⟩
  rw [Nat.add_mul, Nat.mul_comm (2 ^ m) nb]
  omega

set_option maxHeartbeats 4000000 in
set_option maxRecDepth 100000 in
theorem quo_any (va vb : Value) (na nb : Nat) (w : World) (ha : IsN w va na) (hb : IsN w vb nb) (h0 : 0 < nb) (hsa : na < 2 ^ 90000) (hsb : nb < 2 ^ 90000) :
    Calls Tryd.prog 90 #[va, vb] w (QuoRes w (na / nb) (na % nb)) := by
  have hba := bitLen_lt hsa
  have hbb := bitLen_lt hsb
  have Hsa6 := Lib.hid (pow_up (m := 90000) (n := 1000000) hsa (by omega))
  have Hsb6 := Lib.hid (pow_up (m := 90000) (n := 1000000) hsb (by omega))
  have Ha := Lib.hid ha; have Hb := Lib.hid hb; have Hsa := Lib.hid hsa; have H0 := Lib.hid h0
  have Hz1 := Lib.hid (fun h => quo_small (na := na) (nb := nb) h)
  have Hz2 := Lib.hid (fun j h => quo_start (na := na) (nb := nb) h0 (j := j) h)
  clear ha hb hsa hsb h0
  go_enter Tryd.func90, Tryd.ntmps90
  go_wp2_with fail
  refine (size_any va na _ Ha.out Hsa6.out).mono ?_
  rintro e w1 ⟨rfl, n1, rfl⟩
  go_wp2_with fail
  refine (size_any vb nb _ (Hb.out.later (below_drewN (Below.refl _ _) _)) Hsb6.out).mono ?_
  rintro e w1 ⟨rfl, n2, rfl⟩
  generalize bitLen na = p at *
  generalize bitLen nb = q at *
  go_wp2
  go_loopw [0, 6, 7, 8] (fun a c n _ wr => ∃ (i : Int) (r k : Nat), n = .int .i64 i ∧ -2000000 ≤ i ∧ i ≤ 90000 ∧ IsN wr a r ∧ IsN wr c k ∧ na = k * nb + r ∧ r < nb * 2 ^ (i + 1).toNat ∧ Below w.heap.size w wr) (fun _ _ n _ _ => (intOf n + 1).toNat)
  case atStart =>
    refine ⟨(p : Int) - (q : Int), na, 0, rfl, by omega, by omega, Ha.out, isN_nil _, by simp, ?_, below_drewN (Below.refl _ _) _⟩
    by_cases hpq : p < q
    · rw [show ((p : Int) - (q : Int) + 1).toNat = 0 by omega]
      simpa using Hz1.out hpq
    · rw [show ((p : Int) - (q : Int) + 1).toNat = p - q + 1 by omega]
      exact Hz2.out (p - q) (by omega)
  case round =>
    obtain ⟨i, r, k, rfl, hi0, hi1, hA, hC, hval, hlt, hbel⟩ := hrel
    have HA := Lib.hid hA; have HC := Lib.hid hC; have Hval := Lib.hid hval; have Hlt := Lib.hid hlt; have Hbel := Lib.hid hbel
    clear hA hC hval hlt hbel
    by_cases hi : 0 ≤ i
    · obtain ⟨m, rfl⟩ := Int.eq_ofNat_of_zero_le hi
      go_wp2_with fail
      refine (left_any vb nb m _ (Hb.out.later Hbel.out) Hsb6.out (by omega)).mono ?_
      rintro e w1 ⟨t, rfl, hT, hb1⟩
      have HT := Lib.hid hT
      have Hb1 : Hid (Below w.heap.size w w1) := Hbel.out.trans (hb1.mono Hbel.out.size)
      have HA1 := Lib.hid (HA.out.later hb1); have HC1 := Lib.hid (HC.out.later hb1)
      clear hT hb1 HA HC
      go_wp2_with fail
      refine (compare_any t _ _ r _ HT.out HA1.out).mono ?_
      rintro e w2 ⟨rfl, n3, rfl⟩
      by_cases hle : nb * 2 ^ m ≤ r
      · have hcm := cmpI_le.2 hle
        have Hle := Lib.hid hle
        have hlt2 := Hlt.out
        rw [show ((m : Int) + 1).toNat = m + 1 by omega] at hlt2
        have Hq := Lib.hid (quo_take Hval.out hlt2 hle)
        have Hr6 := Lib.hid (Nat.lt_of_le_of_lt (show r ≤ na by have := Hval.out; omega) Hsa6.out)
        have Hk6 := Lib.hid (Nat.lt_of_le_of_lt (show k ≤ na by have := Hval.out; have := Nat.le_mul_of_pos_right k H0.out; omega) Hsa.out)
        have Hrle := Lib.hid (show r ≤ na by have := Hval.out; omega)
        clear hle hlt2
        generalize cmpI (nb * 2 ^ m) r = cm at *
        go_wp2_with fail
        refine (minus_any _ t r (nb * 2 ^ m) _ (HA1.out.later (below_drewN (Below.refl _ _) _)) (HT.out.later (below_drewN (Below.refl _ _) _)) Hle.out Hr6.out).mono ?_
        rintro e w3 ⟨a2, rfl, hA2, hb3⟩
        have hb3' : Below w1.heap.size w1 w3 := (below_drewN (Below.refl _ _) _).trans hb3
        have HA2 := Lib.hid hA2; have HC2 := Lib.hid (HC1.out.later hb3')
        have Hb3 : Hid (Below w.heap.size w w3) := Hb1.out.trans (hb3'.mono Hb1.out.size)
        clear hb3 hb3' hA2 HA1 HC1 HT
        go_wp2_with fail
        refine (word_any 1 _ (by decide)).mono ?_
        rintro e w4 ⟨o1, rfl, hO, hb4⟩
        have HO := Lib.hid hO; have HA3 := Lib.hid (HA2.out.later hb4); have HC3 := Lib.hid (HC2.out.later hb4)
        have Hb4 : Hid (Below w.heap.size w w4) := Hb3.out.trans (hb4.mono Hb3.out.size)
        clear hO hb4 HA2 HC2
        go_wp2_with fail
        refine (left_any o1 1 m _ HO.out (pow_up (m := 1) (n := 1000000) (by decide) (by omega)) (by omega)).mono ?_
        rintro e w5 ⟨o2, rfl, hO2, hb5⟩
        have HO2 := Lib.hid hO2; have HA4 := Lib.hid (HA3.out.later hb5); have HC4 := Lib.hid (HC3.out.later hb5)
        have Hb5 : Hid (Below w.heap.size w w5) := Hb4.out.trans (hb5.mono Hb4.out.size)
        clear hO2 hb5 HA3 HC3
        go_wp2_with fail
        refine (plus_any _ o2 k (1 * 2 ^ m) _ HC4.out HO2.out (pow_up (m := 90000) (n := 100000) Hk6.out (by omega)) (one_pow_lt (n := 100000) (by omega))).mono ?_
        rintro e w6 ⟨c2, rfl, hC6, hb6⟩
        have HC6 := Lib.hid hC6; have HA6 := Lib.hid (HA4.out.later hb6)
        have Hb6 : Hid (Below w.heap.size w w6) := Hb5.out.trans (hb6.mono Hb5.out.size)
        clear hC6 hb6 HA4 HC4
        go_wp2
        go_roundw
        case rel => exact ⟨(m : Int) - 1, r - nb * 2 ^ m, k + 1 * 2 ^ m, by go_num, by omega, by omega, HA6.out, HC6.out, by rw [Nat.one_mul]; exact Hq.out.1, by rw [show ((m : Int) - 1 + 1).toNat = m by omega]; exact Hq.out.2, Hb6.out⟩
        case measure => simp [intOf]
      · have hcm : 0 < cmpI (nb * 2 ^ m) r := Int.not_le.1 fun h => hle (cmpI_le.1 h)
        have Hle := Lib.hid hle
        have HA2 := Lib.hid (HA1.out.later (below_drewN (Below.refl w1.heap.size w1) n3))
        have HC2 := Lib.hid (HC1.out.later (below_drewN (Below.refl w1.heap.size w1) n3))
        have Hb2 := Lib.hid (below_drewN Hb1.out n3)
        clear hle HA1 HC1 Hsa6 Hsb6 Hsa
        generalize cmpI (nb * 2 ^ m) r = cm at *
        go_wp2
        go_roundw
        case rel => exact ⟨(m : Int) - 1, r, k, by go_num, by omega, by omega, HA2.out, HC2.out, Hval.out, by rw [show ((m : Int) - 1 + 1).toNat = m by omega]; have := Hle.out; omega, Hb2.out⟩
        case measure => simp [intOf]
    · have hr : r < nb := by have := Hlt.out; rw [show (i + 1).toNat = 0 by omega] at this; simpa using this
      have He := Lib.hid (quo_end Hval.out hr)
      clear hr
      go_wp2_with fail
      refine (norm_is _ r _ HA.out).mono ?_
      rintro e w3 ⟨a2, rfl, hA2, hb3⟩
      have HA2 := Lib.hid hA2; have HC2 := Lib.hid (HC.out.later hb3)
      have Hb3 : Hid (Below w.heap.size w w3) := Hbel.out.trans (hb3.mono Hbel.out.size)
      clear hA2 hb3
      go_wp2
      go_ret2
      exact ⟨_, _, rfl, by rw [← He.out.1]; exact HC2.out, by rw [← He.out.2]; exact HA2.out, Hb3.out⟩

end Go.Proofs.YtbpldplbkmabmaaDoor
