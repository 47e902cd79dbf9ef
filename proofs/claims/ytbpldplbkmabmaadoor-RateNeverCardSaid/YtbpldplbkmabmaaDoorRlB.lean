/- Contracts of math/bits.TrailingZeros64 (its table in the world) and real.Exact. -/
import Derived.Test.YtbpldplbkmabmaaDoorRlA
import Derived.Lib.TrailingZeros
import Derived.Deep.QuietTactic
import Derived.BigQuiet
import Derived.IntWalk
namespace Go.Proofs.YtbpldplbkmabmaaDoor
open Go.RowKit

/-- The library's table lies in its variable. -/
def Tab (w : World) : Prop := ∀ j, j < Lib.deBruijn64tab.length → w.cell? ⟨1, j, none⟩ = some (.int .u8 (Lib.deBruijn64tab.getD j 0 : Nat))

theorem Tab.later {w w' : World} (h : Tab w) (hb : Below w.heap.size w w') : Tab w' := fun j hj => cell_later hb (h j hj)
theorem Tab.drewN {w : World} (h : Tab w) (n : Nat) : Tab (w.drewN n) := fun j hj => by rw [World.cell?_drewN]; exact h j hj

theorem tz_key (x a : Nat) (hx : x < 18446744073709551616) (hx0 : x ≠ 0) (hlow : x &&& (18446744073709551616 - x) = a) :
    IntKind.u64.wrap (bits BinOp.and IntKind.u64 (x : Int) (IntKind.u64.wrap (-(x : Int))) * 285870213051353865) / 288230376151711744 = ((a * 285870213051353865 % 18446744073709551616 / 288230376151711744 : Nat) : Int) := by
  have e1 : IntKind.u64.wrap (-(x : Int)) = ((18446744073709551616 - x : Nat) : Int) := by rw [IntKind.wrap_u64]; omega
  rw [e1, u64_and_nat x _ hx (by omega), hlow, IntKind.wrap_u64]
  omega

set_option maxHeartbeats 1000000 in
theorem tz_core (x k idx : Nat) (w : World) (hx0 : ((x : Int) == 0) = false)
    (key : IntKind.u64.wrap (bits BinOp.and IntKind.u64 (x : Int) (IntKind.u64.wrap (-(x : Int))) * 285870213051353865) / 288230376151711744 = (idx : Int))
    (hi : idx < 64) (hk : k < 64) (hcell : w.cell? ⟨1, idx, none⟩ = some (.int .u8 k)) :
    Calls Tryd.prog 71 #[.int .u64 x] w fun e w' => e = .returned (.int .i64 k) ∧ w = w' := by
  go_enter Tryd.func71, Tryd.ntmps71
  go_wp2_with (simp only [key])
  go_ret
  exact ⟨rfl, rfl⟩

theorem tz_any (x : Nat) (w : World) (hx : x < 18446744073709551616) (hx0 : x ≠ 0) (hT : Tab w) :
    Calls Tryd.prog 71 #[.int .u64 x] w fun e w' => e = .returned (.int .i64 (Lib.ctz 64 x)) ∧ w = w' := by
  obtain ⟨hlow, hk⟩ := Lib.lowest_bit 64 x hx0 hx
  obtain ⟨hi, htab⟩ := Lib.deBruijn64_at _ hk
  have hcell := hT _ hi
  rw [htab] at hcell
  exact tz_core x _ _ w (by simp; omega) (tz_key x _ hx hx0 hlow) hi hk hcell

theorem odd_unique {o p : Nat} (ho : o % 2 = 1) (hp : p % 2 = 1) : ∀ i j : Nat, o * 2 ^ i = p * 2 ^ j → o = p ∧ i = j
  | 0, 0, h => ⟨by simpa using h, rfl⟩
  | 0, j + 1, h => by rw [Nat.pow_succ, ← Nat.mul_assoc] at h; simp at h; omega
  | i + 1, 0, h => by rw [Nat.pow_succ, ← Nat.mul_assoc] at h; simp at h; omega
  | i + 1, j + 1, h => by
    rw [Nat.pow_succ, Nat.pow_succ, ← Nat.mul_assoc, ← Nat.mul_assoc] at h
    obtain ⟨h1, h2⟩ := odd_unique ho hp i j (by omega)
    exact ⟨h1, by omega⟩

theorem ctz_spec (x : Nat) (hx0 : x ≠ 0) (hx : x < 18446744073709551616) : ∃ m, x = 2 ^ Lib.ctz 64 x * (2 * m + 1) ∧ Lib.ctz 64 x < 64 := by
  have := Lib.ctzFrom_spec 64 x (by omega) (by rw [show (2 : Nat) ^ 64 = 18446744073709551616 from by decide]; exact hx)
  have e : Lib.ctz 64 x = Lib.ctzFrom 64 x := by simp [Lib.ctz, hx0]
  rw [e]; exact this

theorem quiet_same {P : Program} {f : FuncId} {args : Array Value} {w : World} {n : Nat} {v : Value}
    (h : Calls P f args (w.drewN n) fun e w' => e = .returned v ∧ w.drewN n = w') : Calls P f args (w.drewN n) fun e w'' => e = .returned v ∧ ∃ m, w'' = w.drewN m :=
  h.mono fun _ _ ⟨he, hm⟩ => ⟨he, n, hm.symm⟩

/-- A whole number below 2^53 as a float. -/
theorem toInt_whole {F : Nat} (hF : F < 4503599627370496) : floatToIntVal .f64 (1075 * 4503599627370496 + F) .u64 = some ((4503599627370496 + F : Nat) : Int) := by
  have hr := read_norm (b := 1075 * 4503599627370496 + F) (by omega) (by rw [rg_pos (by omega)]; omega) (by rw [rg_pos (by omega)]; omega)
  rw [rg_pos (by omega), sgn_pos (by omega), show (1075 * 4503599627370496 + F) % 4503599627370496 = F by omega, show (1075 * 4503599627370496 + F) / 4503599627370496 - 1 = 1074 by omega] at hr
  unfold floatToIntVal
  have hd : FloatKind.f64.decode (1075 * 4503599627370496 + F) = .number false (4503599627370496 + F) 0 := hr
  rw [hd]
  have ht : (Ieee.Datum.number false (4503599627370496 + F) 0).toInt .zero = some ((4503599627370496 + F : Nat) : Int) := by
    unfold Ieee.Datum.toInt Ieee.Datum.integral Ieee.Toward.cut
    simp [Ieee.signed]
  rw [ht]
  have e1 : IntKind.u64.min = 0 := by decide
  have e2 : IntKind.u64.max = 18446744073709551615 := by decide
  simp only [e1, e2]
  rw [if_pos ⟨by omega, by omega⟩]

theorem two_scale {M a b c d : Nat} (h : a + b = c + d) : M * 2 ^ a * 2 ^ b = M * 2 ^ c * 2 ^ d := by rw [Nat.mul_assoc, Nat.mul_assoc, ← Nat.pow_add, ← Nat.pow_add, h]

theorem ldexp_whole (F : Nat) (w : World) (hF : F < 4503599627370496) :
    Calls Tryd.prog 43 #[.float .f64 (4602678819172646912 + F), .int .i64 53] w fun e w' => e = .returned (.float .f64 (1075 * 4503599627370496 + F)) ∧ w = w' := by
  refine (ldexp_any (4602678819172646912 + F) 53 0 53 w (by omega) (by omega) (by decide) (by decide) (by decide)).mono ?_
  rintro e w' ⟨q, rfl, hq, rfl⟩
  have e1 : V (4602678819172646912 + F) = (4503599627370496 + F) * 2 ^ 1021 := by
    rw [show 4602678819172646912 + F = 1021 * 4503599627370496 + (4503599627370496 + F) by omega]
    exact V_at (by omega) (Or.inr (by omega))
  have e2 : V (1075 * 4503599627370496 + F) = (4503599627370496 + F) * 2 ^ 1074 := by
    rw [show 1075 * 4503599627370496 + F = 1074 * 4503599627370496 + (4503599627370496 + F) by omega]
    exact V_at (by omega) (Or.inr (by omega))
  have e3 : q = 1075 * 4503599627370496 + F := near_of_exact (by decide) hq (by
    rw [e1, e2]; exact two_scale (a := 1074) (b := 0) (c := 1021) (d := 53) rfl)
  rw [e3, show min (1075 * 4503599627370496 + F) 9218868437227405312 = 1075 * 4503599627370496 + F by omega]
  exact ⟨rfl, rfl⟩

def ExactRes (w : World) (s : Bool) (o : Nat) (e : Int) (f : Nat) (x : Ending) (w' : World) : Prop := x = .returned (.tuple #[.bool s, .int .u64 o, .int .i64 e, .int .i64 f]) ∧ ∃ n, w' = w.drewN n

theorem exact_bad (b : Nat) (w : World) (hb : b < 18446744073709551616) (h : 9218868437227405312 ≤ rg b) :
    Calls Tryd.prog 30 #[.float .f64 b] w (ExactRes w false 0 0 (finE (rg b))) := by
  have K := Lib.hid (fun v => finite_any b v hb)
  have hf : ((finE (rg b) : Int) != 0) = true := by
    rw [bne_iff_ne]
    unfold finE
    split
    · decide
    · rw [if_pos (by omega)]; decide
  generalize finE (rg b) = f at *
  go_enter Tryd.func30, Tryd.ntmps30
  go_wp2_with (go_at_call 68; (with_reducible refine (K.out _).mono ?_); rintro e w' ⟨rfl, rfl⟩)
  exact bodyPost_ret (v := .tuple #[.bool false, .int .u64 0, .int .i64 0, .int .i64 f]) (by simp [results, Tryd.results30, go_sem]) rfl ⟨rfl, 0, rfl⟩

theorem ford_zero' (b : Nat) (hb : b < 18446744073709551616) : (FloatKind.f64.format.order b 0 == some .eq) = decide (rg b = 0) := by
  rw [ord_eq hb (by decide)]
  unfold okW keyW
  rw [rg_pos (show (0 : Nat) < 9223372036854775808 by decide), sgn_pos (show (0 : Nat) < 9223372036854775808 by decide)]
  by_cases h1 : rg b = 0
  · simp [h1]
  · simp [h1]
    intro _
    cases sgn b <;> simp <;> omega

theorem exact_zero (b : Nat) (w : World) (hb : b < 18446744073709551616) (h : rg b = 0) :
    Calls Tryd.prog 30 #[.float .f64 b] w (ExactRes w (sgn b) 0 0 0) := by
  have K := Lib.hid (fun v => finite_any b v hb)
  have Km := Lib.hid (fun v => minus_real b v hb)
  rw [show finE (rg b) = 0 by rw [h]; rfl] at K
  have h0 := ford_zero' b hb
  rw [decide_eq_true h] at h0
  generalize sgn b = s at *
  go_enter Tryd.func30, Tryd.ntmps30
  go_wp2_with (first | (go_at_call 68; (with_reducible refine (K.out _).mono ?_); rintro e w' ⟨rfl, rfl⟩) | (go_at_call 35; (with_reducible refine (Km.out _).mono ?_); rintro e w' ⟨rfl, rfl⟩))
  exact bodyPost_ret (v := .tuple #[.bool s, .int .u64 0, .int .i64 0, .int .i64 0]) (by simp [results, Tryd.results30, go_sem]) rfl ⟨rfl, 0, rfl⟩

set_option maxHeartbeats 2000000 in
set_option maxRecDepth 100000 in
theorem exact_some (b o t : Nat) (w : World) (hb : b < 18446744073709551616) (h0 : 0 < rg b) (h1 : rg b < 9218868437227405312) (ho : o % 2 = 1) (hV : o * 2 ^ t = V (rg b)) (hT : Tab w) :
    Calls Tryd.prog 30 #[.float .f64 b] w (ExactRes w (sgn b) o ((t : Int) - 1074) 0) := by
  have K := Lib.hid (fun v => finite_any b v hb)
  have Km := Lib.hid (fun v => minus_real b v hb)
  have Ka := Lib.hid (fun v => abs_any b v hb)
  rw [show finE (rg b) = 0 by unfold finE; rw [if_neg (by omega), if_neg (by omega)]] at K
  have hz := ford_zero' b hb
  rw [decide_eq_false (by omega)] at hz
  have Kf := Lib.hid (fun v => frexp_any (rg b) v h0 h1)
  obtain ⟨f1, f2, f3, f4⟩ := nR_facts h0 h1
  generalize sgn b = s at *
  generalize rg b = r at *
  have hE1 : 0 < nR r / 4503599627370496 := by omega
  have hE2 : nR r / 4503599627370496 ≤ 2046 := by omega
  have hR : nR r = nR r / 4503599627370496 * 4503599627370496 + nR r % 4503599627370496 := by omega
  have hF : nR r % 4503599627370496 < 4503599627370496 := by omega
  generalize nR r / 4503599627370496 = E at *
  generalize nR r % 4503599627370496 = F at *
  obtain ⟨m, hm, hk⟩ := ctz_spec (4503599627370496 + F) (by omega) (by omega)
  have Kt : Hid (∀ v, Tab v → Calls Tryd.prog 71 #[.int .u64 (4503599627370496 + (F : Int))] v fun e w' => e = .returned (.int .i64 (Lib.ctz 64 (4503599627370496 + F))) ∧ v = w') := Lib.hid (fun v h => tz_any (4503599627370496 + F) v (by omega) (by omega) h)
  have HT := Lib.hid hT
  have hg := toInt_whole hF
  generalize hn : Lib.ctz 64 (4503599627370496 + F) = n at *
  have hVR : V (nR r) = (4503599627370496 + F) * 2 ^ (E - 1) := by
    rw [hR, show E * 4503599627370496 + F = (E - 1) * 4503599627370496 + (4503599627370496 + F) by omega, V_at (by omega) (Or.inr (by omega))]
  have hodd : o = 2 * m + 1 ∧ t + nE r = n + (E - 1) := by
    refine odd_unique ho (by omega) _ _ ?_
    rw [Nat.pow_add, ← Nat.mul_assoc, hV, ← f3, hVR, hm, Nat.pow_add, ← Nat.mul_assoc, Nat.mul_comm (2 ^ n)]
  have hdiv : (4503599627370496 + (F : Int)) / 2 ^ n = (o : Int) := by
    rw [show (4503599627370496 : Int) + (F : Int) = ((4503599627370496 + F : Nat) : Int) from rfl, hm, hodd.1]
    rw [Int.natCast_mul, Int.natCast_pow]
    exact Int.mul_ediv_cancel_left _ (Int.ne_of_gt (Int.pow_pos (by decide)))
  have Kl := Lib.hid (fun v => ldexp_whole F v hF)
  have hexp : (E : Int) - 1022 - (nE r : Int) - 53 + (n : Int) = (t : Int) - 1074 := by omega
  have Hexp := Lib.hid hexp
  generalize nE r = N at *
  clear hexp hm hodd hVR hR f1 f2 f3 h0 h1 hV ho hn hT
  have hcv := run_convert_float_int (P := Tryd.prog) w 23 22 .f64 .u64 (1075 * 4503599627370496 + F) _ (by kernel_rfl) Tryd.underlying22 hg
  clear hg
  go_enter Tryd.func30, Tryd.ntmps30
  go_wp2_with (first | (go_at_call 68; (with_reducible refine (K.out _).mono ?_); rintro e w' ⟨rfl, rfl⟩) | (go_at_call 70; (with_reducible refine (Ka.out _).mono ?_); rintro e w' ⟨rfl, rfl⟩) | (go_at_call 69; (with_reducible refine (Kf.out _).mono ?_); rintro e w' ⟨rfl, rfl⟩))
  refine (Kl.out _).mono ?_
  rintro e w' ⟨rfl, rfl⟩
  go_wp2_with (go_at_call 71; (with_reducible refine (Kt.out _ HT.out).mono ?_); rintro e w' ⟨rfl, rfl⟩)
  have hs1 : IntKind.i64.wrap ((E : Int) - 1022 - (N : Int) - 53) = (E : Int) - 1022 - (N : Int) - 53 := IntWalk.i64_in _ (by omega)
  have hs2 : IntKind.i64.wrap ((E : Int) - 1022 - (N : Int) - 53 + (n : Int)) = (E : Int) - 1022 - (N : Int) - 53 + (n : Int) := IntWalk.i64_in _ (by omega)
  go_quiet ((go_at_call 35; exact quiet_same (Km.out _)))
  clear hs1 hs2
  rw [Hexp.out]
  go_wp2
  exact bodyPost_ret (v := .tuple #[.bool s, .int .u64 o, .int .i64 ((t : Int) - 1074), .int .i64 0]) (by simp [results, Tryd.results30, go_sem]) rfl ⟨rfl, nq, rfl⟩
end Go.Proofs.YtbpldplbkmabmaaDoor
