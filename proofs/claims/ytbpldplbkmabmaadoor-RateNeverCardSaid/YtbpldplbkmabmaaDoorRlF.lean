/- The contract of real.Ticks. -/
import Derived.Test.YtbpldplbkmabmaaDoorRlE
namespace Go.Proofs.YtbpldplbkmabmaaDoor
open Go.RowKit

theorem mul_pw {x y i j k : Nat} (hx : x < 2 ^ i) (hy : y < pw j) (h : i + j ≤ k) : x * y < pw k := by
  have h1 : x * y ≤ 2 ^ i * y := Nat.mul_le_mul_right _ (Nat.le_of_lt hx)
  have h2 : 2 ^ i * y < 2 ^ i * pw j := Nat.mul_lt_mul_of_pos_left hy (Nat.two_pow_pos _)
  unfold pw at *
  rw [← Nat.pow_add] at h2
  exact Nat.lt_of_lt_of_le (Nat.lt_of_le_of_lt h1 h2) (Nat.pow_le_pow_right (by decide) h)

theorem le_pw {x j k : Nat} (hx : x < pw j) (h : j ≤ k) : x < pw k := Nat.lt_of_lt_of_le hx (Nat.pow_le_pow_right (by decide) h)

theorem pmul_pw (va : Value) (na b : Nat) (w : World) (ha : IsN w va na) (hsa : na < pw 2000) (hb : b < 18446744073709551616) :
    Calls Tryd.prog 56 #[va, .int .u64 b] w (NatRes w (b * na)) := by
  have h := up_pw hsa (show 2000 ≤ 100000 by decide)
  exact pmul_any va na b w ha h hb

/-- The ticks of a finite float that isn't below 0. -/
def tickN (r hz how : Nat) : Nat := wholeN (V r * hz) (pw 1074) how
def argsT (hz how : Int) : Bool := decide (1 ≤ hz ∧ hz ≤ 1000000000 ∧ 0 ≤ how ∧ how ≤ 2)
/-- The error of Ticks. -/
def tkE (b : Nat) (hz how : Int) : Nat :=
  if argsT hz how = false then 1 else if 9218868437227405312 ≤ rg b then finE (rg b) else if sgn b = true ∧ 0 < rg b then 5
  else if tickN (rg b) hz.toNat how.toNat ≤ 4611686018427387903 then 0 else 5
/-- What Ticks tells. -/
def tkV (b : Nat) (hz how : Int) : Int := if tkE b hz how = 0 then (tickN (rg b) hz.toNat how.toNat : Int) else 0
def TkRes (w : World) (b : Nat) (hz how : Int) (e : Ending) (w' : World) : Prop := e = .returned (.tuple #[.int .i64 (tkV b hz how), .int .i64 (tkE b hz how)]) ∧ Below w.heap.size w w'

theorem tk_arg {b : Nat} {hz how : Int} (h : argsT hz how = false) : tkE b hz how = 1 ∧ tkV b hz how = 0 := by
  have e : tkE b hz how = 1 := by unfold tkE; rw [if_pos h]
  exact ⟨e, by unfold tkV; rw [e]; rfl⟩
theorem tk_fin {b : Nat} {hz how : Int} (h : argsT hz how = true) (h1 : 9218868437227405312 ≤ rg b) : tkE b hz how = finE (rg b) ∧ tkV b hz how = 0 := by
  have e : tkE b hz how = finE (rg b) := by unfold tkE; rw [if_neg (by simp [h]), if_pos h1]
  refine ⟨e, ?_⟩
  unfold tkV
  rw [e, if_neg]
  unfold finE
  repeat' split
  all_goals omega
theorem tk_neg {b : Nat} {hz how : Int} (h : argsT hz how = true) (h1 : rg b < 9218868437227405312) (h2 : sgn b = true ∧ 0 < rg b) : tkE b hz how = 5 ∧ tkV b hz how = 0 := by
  have e : tkE b hz how = 5 := by unfold tkE; rw [if_neg (by simp [h]), if_neg (by omega), if_pos h2]
  exact ⟨e, by unfold tkV; rw [e]; rfl⟩
theorem tk_some {b : Nat} {hz how : Int} (h : argsT hz how = true) (h1 : rg b < 9218868437227405312) (h2 : ¬ (sgn b = true ∧ 0 < rg b)) (h3 : tickN (rg b) hz.toNat how.toNat ≤ 4611686018427387903) : tkE b hz how = 0 ∧ tkV b hz how = tickN (rg b) hz.toNat how.toNat := by
  have e : tkE b hz how = 0 := by unfold tkE; rw [if_neg (by simp [h]), if_neg (by omega), if_neg h2, if_pos h3]
  exact ⟨e, by unfold tkV; rw [e]; rfl⟩
theorem tk_big {b : Nat} {hz how : Int} (h : argsT hz how = true) (h1 : rg b < 9218868437227405312) (h2 : ¬ (sgn b = true ∧ 0 < rg b)) (h3 : ¬ tickN (rg b) hz.toNat how.toNat ≤ 4611686018427387903) : tkE b hz how = 5 ∧ tkV b hz how = 0 := by
  have e : tkE b hz how = 5 := by unfold tkE; rw [if_neg (by simp [h]), if_neg (by omega), if_neg h2, if_neg h3]
  exact ⟨e, by unfold tkV; rw [e]; rfl⟩

theorem argsT_yes {hz how : Int} (h : argsT hz how = true) : 1 ≤ hz ∧ hz ≤ 1000000000 ∧ 0 ≤ how ∧ how ≤ 2 := by simpa [argsT] using h
theorem argsT_no {hz how : Int} (h : argsT hz how = false) : hz < 1 ∨ 1000000000 < hz ∨ how < 0 ∨ 2 < how := by
  unfold argsT at h
  have := of_decide_eq_false h
  omega

theorem ford_neg (b : Nat) (hb : b < 18446744073709551616) (h1 : rg b ≤ 9218868437227405312) : (FloatKind.f64.format.order b 0 == some .lt) = decide (sgn b = true ∧ 0 < rg b) := by
  rw [ord_lt hb (by decide)]
  unfold okW keyW
  rw [rg_pos (show (0 : Nat) < 9223372036854775808 by decide), sgn_pos (show (0 : Nat) < 9223372036854775808 by decide), decide_eq_true h1]
  cases sgn b
  · simp
  · simp

set_option maxHeartbeats 4000000 in
theorem ticks_any (b : Nat) (hz how : Int) (w : World) (hb : b < 18446744073709551616) (hT : Tab w) :
    Calls Tryd.prog 37 #[.float .f64 b, .int .i64 hz, .int .i64 how] w (TkRes w b hz how) := by
  unfold TkRes
  cases hA : argsT hz how with
  | false =>
    obtain ⟨e1, e2⟩ := tk_arg (b := b) hA
    rw [e1, e2]
    have hno := argsT_no hA
    clear e1 e2 hA hT
    by_cases c1 : hz < 1
    · go_enter Tryd.func37, Tryd.ntmps37
      go_wp2
      go_ret2
      exact ⟨rfl, Below.refl _ _⟩
    · by_cases c2 : 1000000000 < hz
      · go_enter Tryd.func37, Tryd.ntmps37
        go_wp2
        go_ret2
        exact ⟨rfl, Below.refl _ _⟩
      · by_cases c3 : how < 0
        · go_enter Tryd.func37, Tryd.ntmps37
          go_wp2
          go_ret2
          exact ⟨rfl, Below.refl _ _⟩
        · have c4 : 2 < how := by omega
          clear hno
          go_enter Tryd.func37, Tryd.ntmps37
          go_wp2
          go_ret2
          exact ⟨rfl, Below.refl _ _⟩
  | true =>
    obtain ⟨a1, a2, a3, a4⟩ := argsT_yes hA
    have Kf := Lib.hid (fun v => finite_any b v hb)
    by_cases c1 : 9218868437227405312 ≤ rg b
    · obtain ⟨e1, e2⟩ := tk_fin hA c1
      rw [e1, e2]
      have hf : ((finE (rg b) : Int) != 0) = true := by
        rw [bne_iff_ne]
        unfold finE
        split
        · decide
        · rw [if_pos (by omega)]; decide
      generalize finE (rg b) = f at *
      clear e1 e2 hA hT c1
      go_enter Tryd.func37, Tryd.ntmps37
      go_wp2_with (go_at_call 68; (with_reducible refine (Kf.out _).mono ?_); rintro e w' ⟨rfl, rfl⟩)
      go_ret2
      exact ⟨rfl, Below.refl _ _⟩
    · have hfo := ford_neg b hb (by omega)
      rw [show finE (rg b) = 0 by unfold finE; rw [if_neg (by omega), if_neg (by omega)]] at Kf
      by_cases c2 : sgn b = true ∧ 0 < rg b
      · obtain ⟨e1, e2⟩ := tk_neg hA (by omega) c2
        rw [e1, e2]
        rw [decide_eq_true c2] at hfo
        clear e1 e2 hA hT c1 c2
        go_enter Tryd.func37, Tryd.ntmps37
        go_wp2_with (go_at_call 68; (with_reducible refine (Kf.out _).mono ?_); rintro e w' ⟨rfl, rfl⟩)
        go_ret2
        exact ⟨rfl, Below.refl _ _⟩
      · rw [decide_eq_false c2] at hfo
        have Ko := Lib.hid (fun v h => over_any b v hb (by omega) h)
        have HT := Lib.hid hT
        obtain ⟨z, hz'⟩ := Int.eq_ofNat_of_zero_le (show 0 ≤ hz by omega)
        obtain ⟨k, hk'⟩ := Int.eq_ofNat_of_zero_le a3
        subst hz' hk'
        have hSome := Lib.hid (fun h3 => tk_some hA (by omega) c2 h3)
        have hBig := Lib.hid (fun h3 => tk_big hA (by omega) c2 h3)
        simp only [Int.toNat_natCast] at hSome hBig
        obtain ⟨n, hn⟩ : ∃ n, n = tickN (rg b) z k := ⟨_, rfl⟩
        rw [← hn] at hSome hBig
        have Hn := Lib.hid hn
        generalize tkV b (z : Int) (k : Int) = V0 at *
        generalize tkE b (z : Int) (k : Int) = E0 at *
        have hk2 : k ≤ 2 := by omega
        clear hn hA hT c1 c2
        go_enter Tryd.func37, Tryd.ntmps37
        go_wp2_with (go_at_call 68; (with_reducible refine (Kf.out _).mono ?_); rintro e w' ⟨rfl, rfl⟩)
        refine (Ko.out _ HT.out).mono ?_
        rintro e w1 ⟨v1, v2, a, c, rfl, hv1, hv2, ho, hb1⟩
        have Hv1 := Lib.hid hv1; have Hv2 := Lib.hid hv2; have Ho := Lib.hid ho; have Hb1 := Lib.hid hb1
        clear hv1 hv2 ho hb1
        have Km := Lib.hid (fun v (h : IsN v v1 a) => pmul_pw v1 a z v h Ho.out.2.2.1 (by omega))
        go_wp2_with fail
        refine (Km.out _ Hv1.out).mono ?_
        rintro e w2 ⟨v3, rfl, hv3, hb2⟩
        have Hv3 := Lib.hid hv3; have Hv2' := Lib.hid (Hv2.out.later hb2); have Hb2 := Lib.hid (Hb1.out.trans (hb2.mono Hb1.out.size))
        clear hv3 hb2 Hv1 Hv2 Km Hb1
        have hw : wholeN (z * a) c k = n := by
          rw [Hn.out]
          unfold tickN
          refine whole_ratio k Ho.out.1 (pw_pos _) ?_
          rw [Nat.mul_assoc, Ho.out.2.1, Nat.mul_comm z, Nat.mul_assoc, Nat.mul_assoc, Nat.mul_comm c]
        have Kw := Lib.hid (fun v (h : IsN v v3 (z * a)) (h' : IsN v v2 c) => whole_any v3 v2 (z * a) c k v h h' Ho.out.1 (by
            have h1 := Ho.out.2.2.1
            exact mul_pw (show z < 2 ^ 30 by omega) h1 (by decide)) (le_pw Ho.out.2.2.2 (by decide)) hk2)
        rw [hw] at Kw
        clear hw
        go_wp2_with fail
        refine (Kw.out _ Hv3.out Hv2'.out).mono ?_
        rintro e w3 ⟨x, rfl, hx, hb3⟩
        have Hb3 := Lib.hid (Hb2.out.trans (hb3.mono Hb2.out.size))
        clear hb3 Kw Hv3 Hv2' Hb2 Ho Hn Ko
        by_cases hm : n ≤ 4611686018427387903
        · obtain ⟨e1, e2⟩ := hSome.out hm
          have hxn := hx hm
          subst hxn e1 e2
          rw [decide_eq_true hm]
          clear hx hm hSome hBig
          go_wp2
          go_ret2
          exact ⟨rfl, Hb3.out⟩
        · obtain ⟨e1, e2⟩ := hBig.out hm
          subst e1 e2
          rw [decide_eq_false hm]
          clear hx hm hSome hBig
          go_wp2
          go_ret2
          exact ⟨rfl, Hb3.out⟩
end Go.Proofs.YtbpldplbkmabmaaDoor
