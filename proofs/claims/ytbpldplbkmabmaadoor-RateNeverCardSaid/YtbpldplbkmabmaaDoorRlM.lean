/- Contracts of spigotref03.Nearest and word. -/
import Derived.Test.YtbpldplbkmabmaaDoorRlL
import Derived.Test.YtbpldplbkmabmaaDoorRlG
import Derived.Test.YtbpldplbkmabmaaDoorFlH
namespace Go.Proofs.YtbpldplbkmabmaaDoor
open Go.RowKit

def NearRes (w : World) (na nb : Nat) (e : Ending) (w' : World) : Prop := ∃ r, e = .returned (.float .f64 r) ∧ RatNat na nb r ∧ Below w.heap.size w w'

theorem near_word (a : Int) (w : World) (h1 : -9223372036854775808 ≤ a) (h2 : a ≤ 9223372036854775807) :
    Calls Tryd.prog 94 #[.int .i64 a] w (NatRes w a.natAbs) := by
  have K := Lib.hid (fun v => word_any a.natAbs v (by omega))
  by_cases h : a < 0
  · have e : IntKind.u64.wrap (-(IntKind.u64.wrap a)) = ((a.natAbs : Nat) : Int) := by simp only [IntKind.wrap_u64]; omega
    have e1 : IntKind.u64.wrap a = a + 18446744073709551616 := by simp only [IntKind.wrap_u64]; omega
    have e2 : IntKind.u64.wrap (-(a + 18446744073709551616)) = ((a.natAbs : Nat) : Int) := by rw [← e1]; exact e
    generalize a.natAbs = n at *
    clear e
    go_enter Tryd.func94, Tryd.ntmps94
    go_wp2_with fail
    refine (K.out _).mono ?_
    rintro e w1 ⟨v, rfl, hv, hb⟩
    have Hv := Lib.hid hv; have Hb := Lib.hid hb
    clear hv hb
    go_wp2
    go_ret
    exact ⟨v, rfl, Hv.out, Hb.out⟩
  · obtain ⟨n, rfl⟩ := Int.eq_ofNat_of_zero_le (show 0 ≤ a by omega)
    rw [Int.natAbs_natCast] at *
    go_enter Tryd.func94, Tryd.ntmps94
    go_wp2_with fail
    refine (K.out _).mono ?_
    rintro e w1 ⟨v, rfl, hv, hb⟩
    have Hv := Lib.hid hv; have Hb := Lib.hid hb
    clear hv hb
    go_wp2
    go_ret
    exact ⟨v, rfl, Hv.out, Hb.out⟩

theorem rsize_pw (v : Value) (n : Nat) (w : World) (h : IsN w v n) (hn : n < pw 1000) :
    Calls Tryd.prog 101 #[v] w (CmpRes w (bitLen n : Nat)) := by
  have h1 := up_pw hn (show 1000 ≤ 1000000 by decide)
  exact size_any v n w h h1

/-- What the loop of Nearest keeps: N = y d + r, and the scale. -/
def NearRel (P Y N e y d r : Nat) : Prop := 0 < d ∧ N = y * d + r ∧ r < d ∧ P * d = N * (Y * pw e) ∧ 9007199254740992 ≤ y ∧ y < 36028797018963968 ∧ 900 ≤ e ∧ e ≤ 1200

theorem div_mod_eq (n d : Nat) : n = n / d * d + n % d := by
  have := Nat.div_add_mod n d
  rw [Nat.mul_comm] at this
  exact this.symm

theorem near_round {P Y N e y d r : Nat} (h : NearRel P Y N e y d r) (hy : 18014398509481984 ≤ y) (he : e + 1 ≤ 1200) : NearRel P Y N (e + 1) (y / 2) (2 * d) (y % 2 * d + r) ∧ decide (0 < y % 2 * d + r) = (decide (0 < r) || (y % 2 == 1)) := by
  obtain ⟨h0, h1, h2, h3, h4, h5, h6, h7⟩ := h
  refine ⟨⟨by omega, ?_, ?_, ?_, by omega, by omega, by omega, he⟩, ?_⟩
  · rw [h1]
    have e1 : y * d = (2 * (y / 2) + y % 2) * d := by rw [Nat.div_add_mod]
    rw [e1, Nat.add_mul, Nat.mul_comm 2 (y / 2), Nat.mul_assoc, Nat.add_assoc]
  · rcases (show y % 2 = 0 ∨ y % 2 = 1 by omega) with hb | hb
    · rw [hb]; omega
    · rw [hb]; omega
  · have e2 : pw (e + 1) = pw e * 2 := Nat.pow_succ ..
    rw [e2, Nat.mul_comm 2 d, ← Nat.mul_assoc, h3, ← Nat.mul_assoc Y, Nat.mul_assoc]
  · rcases (show y % 2 = 0 ∨ y % 2 = 1 by omega) with hb | hb
    · rw [hb]; simp
    · rw [hb]; simp; omega

theorem near_end {na nb N e y d r : Nat} (h : NearRel (na * pw 1074) nb N e y d r) (hb : 0 < nb) (hy : y < 18014398509481984) : RatNat na nb ((e + 1) * 4503599627370496 + lastOff y r) := by
  obtain ⟨h0, h1, h2, h3, h4, h5, h6, h7⟩ := h
  have hl : lastOff y r ≤ 9007199254740992 := by unfold lastOff; split <;> omega
  refine ⟨near_last hb h0 h3 h1 h2 h4 hy, by omega, by omega⟩

theorem pw_split {a b c : Nat} (h : a = b + c) : pw a = pw b * pw c := by unfold pw; rw [h, Nat.pow_add]

theorem rel_up {na nb S e : Nat} (hb : 0 < nb) (he : e + S = 1074) (h1 : 900 ≤ e) (hq : 9007199254740992 ≤ na * 2 ^ S / nb ∧ na * 2 ^ S / nb < 36028797018963968) : NearRel (na * pw 1074) nb (na * 2 ^ S) e (na * 2 ^ S / nb) nb (na * 2 ^ S % nb) := by
  refine ⟨hb, div_mod_eq _ _, Nat.mod_lt _ hb, ?_, hq.1, hq.2, h1, by omega⟩
  have e1 : pw 1074 = pw S * pw e := pw_split (by omega)
  have e2 : (2 : Nat) ^ S = pw S := rfl
  rw [e1, e2, Nat.mul_comm nb, ← Nat.mul_assoc, ← Nat.mul_assoc]

theorem rel_down {na nb S e : Nat} (hb : 0 < nb) (he : e = 1074 + S) (h2 : e ≤ 1200) (hq : 9007199254740992 ≤ na / (nb * 2 ^ S) ∧ na / (nb * 2 ^ S) < 36028797018963968) : NearRel (na * pw 1074) nb na e (na / (nb * 2 ^ S)) (nb * 2 ^ S) (na % (nb * 2 ^ S)) := by
  have hd : 0 < nb * 2 ^ S := Nat.mul_pos hb (Nat.two_pow_pos _)
  refine ⟨hd, div_mod_eq _ _, Nat.mod_lt _ hd, ?_, hq.1, hq.2, by omega, h2⟩
  have e1 : pw e = pw 1074 * pw S := pw_split he
  have e2 : (2 : Nat) ^ S = pw S := rfl
  rw [e1, e2, Nat.mul_assoc, Nat.mul_left_comm (pw 1074) nb (pw S)]
end Go.Proofs.YtbpldplbkmabmaaDoor
