/- The contract of nat.Quo: quotient and remainder. -/
import Derived.Test.YtbpldplbkmabmaaDoorNpB
import Derived.Test.YtbpldplbkmabmaaDoorNatQ
namespace Go.Proofs.YtbpldplbkmabmaaDoor
open Go.RowKit

def PQuoYes (w : World) (q r : Nat) (e : Ending) (w' : World) : Prop := ∃ v, e = .returned (.tuple #[.int .u64 q, v, .bool true]) ∧ IsN w' v r ∧ Below w.heap.size w w'

set_option maxHeartbeats 1000000 in
theorem pquo_no (va vb : Value) (na nb : Nat) (w : World) (ha : IsN w va na) (hb : IsN w vb nb) (hsa : na < 2 ^ 90000) (hsb : nb < 2 ^ 90000) (h : bitLen nb + 63 < bitLen na) :
    Calls Tryd.prog 80 #[va, vb] w fun e w' => e = .returned (.tuple #[.int .u64 0, .slice none 0 0, .bool false]) ∧ w = w' := by
  have hba := bitLen_lt hsa
  have hbb := bitLen_lt hsb
  have Hsa6 := Lib.hid (pow_up (m := 90000) (n := 1000000) hsa (by omega))
  have Hsb6 := Lib.hid (pow_up (m := 90000) (n := 1000000) hsb (by omega))
  have Ha := Lib.hid ha; have Hb := Lib.hid hb
  clear ha hb hsa hsb
  go_enter Tryd.func80, Tryd.ntmps80
  go_wp2_with fail
  refine (pbits_any va na _ Ha.out Hsa6.out).mono ?_
  rintro e w1 ⟨rfl, rfl⟩
  go_wp2_with fail
  refine (pbits_any vb nb _ Hb.out Hsb6.out).mono ?_
  rintro e w1 ⟨rfl, rfl⟩
  generalize bitLen na = p at *
  generalize bitLen nb = q at *
  have hpq : (63 : Int) < (p : Int) - (q : Int) := by omega
  go_wp2
  go_ret3
  exact ⟨rfl, rfl⟩

set_option maxHeartbeats 4000000 in
set_option maxRecDepth 100000 in
theorem pquo_yes (va vb : Value) (na nb : Nat) (w : World) (ha : IsN w va na) (hb : IsN w vb nb) (h0 : 0 < nb) (hsa : na < 2 ^ 90000) (hsb : nb < 2 ^ 90000) (h : bitLen na ≤ bitLen nb + 63) (hq : na / nb < 18446744073709551616) :
    Calls Tryd.prog 80 #[va, vb] w (PQuoYes w (na / nb) (na % nb)) := by
  have hba := bitLen_lt hsa
  have hbb := bitLen_lt hsb
  have Hsa6 := Lib.hid (pow_up (m := 90000) (n := 1000000) hsa (by omega))
  have Hsb6 := Lib.hid (pow_up (m := 90000) (n := 1000000) hsb (by omega))
  have Ha := Lib.hid ha; have Hb := Lib.hid hb; have H0 := Lib.hid h0; have Hqq := Lib.hid hq
  have Kp := Lib.hid (fun W (h : IsN W va na) => pbits_any va na W h Hsa6.out)
  have Kq := Lib.hid (fun W (h : IsN W vb nb) => pbits_any vb nb W h Hsb6.out)
  have Kl := Lib.hid (fun (m : Nat) W (h : IsN W vb nb) (hm : m ≤ 1000000) => pleft_any vb nb m W h Hsb6.out hm)
  have Ks := Lib.hid (fun u t r m W (h : IsN W u r) (ht : IsN W t m) (hm : m ≤ r) (hr : r ≤ na) => psub_any u t r m W h ht hm (Nat.lt_of_le_of_lt hr Hsa6.out))
  clear Hsa6 Hsb6
  have Hz1 := Lib.hid (fun h => quo_small (na := na) (nb := nb) h)
  have Hz2 := Lib.hid (fun j h => quo_start (na := na) (nb := nb) h0 (j := j) h)
  clear ha hb hsa hsb h0 hq
  go_enter Tryd.func80, Tryd.ntmps80
  go_wp2_with fail
  refine (Kp.out _ Ha.out).mono ?_
  rintro e w1 ⟨rfl, rfl⟩
  go_wp2_with fail
  refine (Kq.out _ Hb.out).mono ?_
  rintro e w1 ⟨rfl, rfl⟩
  have hpq : ¬ (63 : Int) < (bitLen na : Int) - (bitLen nb : Int) := by omega
  go_wp2_with fail
  refine (Kp.out _ Ha.out).mono ?_
  rintro e w1 ⟨rfl, rfl⟩
  go_wp2_with fail
  refine (Kq.out _ Hb.out).mono ?_
  rintro e w1 ⟨rfl, rfl⟩
  generalize bitLen na = p at *
  generalize bitLen nb = q at *
  go_wp2
  go_loopw [0, 7, 8, 9] (fun a c n _ wr => ∃ (i : Int) (r k : Nat), n = .int .i64 i ∧ -2000000 ≤ i ∧ i ≤ 63 ∧ IsN wr a r ∧ c = .int .u64 k ∧ na = k * nb + r ∧ r < nb * 2 ^ (i + 1).toNat ∧ Below w.heap.size w wr) (fun _ _ n _ _ => (intOf n + 1).toNat)
  case atStart =>
    refine ⟨(p : Int) - (q : Int), na, 0, rfl, by omega, by omega, Ha.out, rfl, by simp, ?_, Below.refl _ _⟩
    by_cases hpq : p < q
    · rw [show ((p : Int) - (q : Int) + 1).toNat = 0 by omega]
      simpa using Hz1.out hpq
    · rw [show ((p : Int) - (q : Int) + 1).toNat = p - q + 1 by omega]
      exact Hz2.out (p - q) (by omega)
  case round =>
    obtain ⟨i, r, k, rfl, hi0, hi1, hA, rfl, hval, hlt, hbel⟩ := hrel
    have HA := Lib.hid hA; have Hval := Lib.hid hval; have Hlt := Lib.hid hlt; have Hbel := Lib.hid hbel
    clear hA hval hlt hbel hpq
    by_cases hi : 0 ≤ i
    · obtain ⟨m, rfl⟩ := Int.eq_ofNat_of_zero_le hi
      go_wp2_with fail
      refine (Kl.out m _ (Hb.out.later Hbel.out) (by omega)).mono ?_
      rintro e w1 ⟨t, rfl, hT, hb1⟩
      have HT := Lib.hid hT
      have Hb1 : Hid (Below w.heap.size w w1) := Hbel.out.trans (hb1.mono Hbel.out.size)
      have HA1 := Lib.hid (HA.out.later hb1)
      clear hT hb1 HA
      go_wp2_with fail
      refine (pcompare_any t _ _ r _ HT.out HA1.out).mono ?_
      rintro e w2 ⟨rfl, n3, rfl⟩
      by_cases hle : nb * 2 ^ m ≤ r
      · have hcm := cmpI_le.2 hle
        have Hle := Lib.hid hle
        have hlt2 := Hlt.out
        rw [show ((m : Int) + 1).toNat = m + 1 by omega] at hlt2
        have Hq := Lib.hid (quo_take Hval.out hlt2 hle)
        have Hrn := Lib.hid (show r ≤ na by have := Hval.out; omega)
        have hkq : k + 2 ^ m < 18446744073709551616 := by
          have h1 := Hq.out.1
          have h2 : k + 2 ^ m ≤ na / nb := (Nat.le_div_iff_mul_le H0.out).2 (by omega)
          have := Hqq.out
          omega
        have hpw : (1 : Int) * 2 ^ m = ((2 ^ m : Nat) : Int) := by rw [Int.one_mul, Int.natCast_pow]; rfl
        have hpw2 : (2 : Int) ^ m = ((2 ^ m : Nat) : Int) := by rw [Int.natCast_pow]; rfl
        have Hpos : Hid (2 ^ m = 2 ^ m) := Lib.hid rfl
        clear hle hlt2
        generalize cmpI (nb * 2 ^ m) r = cm at *
        go_wp2_with fail
        refine (Ks.out _ t r (nb * 2 ^ m) _ (HA1.out.later (below_drewN (Below.refl _ _) _)) (HT.out.later (below_drewN (Below.refl _ _) _)) Hle.out Hrn.out).mono ?_
        rintro e w3 ⟨a2, rfl, hA2, hb3⟩
        have hb3' : Below w1.heap.size w1 w3 := (below_drewN (Below.refl _ _) _).trans hb3
        have HA2 := Lib.hid hA2
        have Hb3 : Hid (Below w.heap.size w w3) := Hb1.out.trans (hb3'.mono Hb1.out.size)
        clear hb3 hb3' hA2 HA1 HT Hpos
        have Hle := Lib.hid Hle.out
        have Hgoal : Hid (na = (k + 2 ^ m) * nb + (r - nb * 2 ^ m) ∧ r - nb * 2 ^ m < nb * 2 ^ ((m : Int) - 1 + 1).toNat) := Lib.hid ⟨Hq.out.1, by rw [show ((m : Int) - 1 + 1).toNat = m by omega]; exact Hq.out.2⟩
        clear Hq
        generalize r - nb * 2 ^ m = r2 at *
        generalize 2 ^ m = pw at *
        go_wp2
        go_roundw
        case rel => exact ⟨(m : Int) - 1, r2, k + pw, by go_num, by omega, by omega, HA2.out, by go_num, Hgoal.out.1, Hgoal.out.2, Hb3.out⟩
        case measure => simp [intOf]
      · have hcm : 0 < cmpI (nb * 2 ^ m) r := Int.not_le.1 fun h => hle (cmpI_le.1 h)
        have Hle := Lib.hid hle
        have HA2 := Lib.hid (HA1.out.later (below_drewN (Below.refl w1.heap.size w1) n3))
        have Hb2 := Lib.hid (below_drewN Hb1.out n3)
        clear hle HA1
        generalize cmpI (nb * 2 ^ m) r = cm at *
        go_wp2
        go_roundw
        case rel => exact ⟨(m : Int) - 1, r, k, by go_num, by omega, by omega, HA2.out, rfl, Hval.out, by rw [show ((m : Int) - 1 + 1).toNat = m by omega]; have := Hle.out; omega, Hb2.out⟩
        case measure => simp [intOf]
    · have hr : r < nb := by have := Hlt.out; rw [show (i + 1).toNat = 0 by omega] at this; simpa using this
      have He := Lib.hid (quo_end Hval.out hr)
      clear hr
      go_wp2
      go_ret3
      refine ⟨_, by rw [← He.out.1]; rfl, ?_, Hbel.out⟩
      rw [← He.out.2]; exact HA.out

end Go.Proofs.YtbpldplbkmabmaaDoor
