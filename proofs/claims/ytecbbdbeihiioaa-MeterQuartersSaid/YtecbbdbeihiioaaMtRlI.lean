/- Contracts of real.rank, Order, Same, Least, Most and of spigotref03.Index, Order, Same, Least, Most. -/
import Derived.Test.YtecbbdbeihiioaaMtRlA
namespace Go.Proofs.Ytecbbdbeihiioaa
open Go.RowKit

/-- The place in the order. -/
def rk (b : Nat) : Int := if 9218868437227405312 < rg b then 9223372036854775807 else if sgn b then -1 - (rg b : Int) else (rg b : Int)

def ix (b : Nat) : Int := if 9218868437227405312 < rg b then 18437736874454810626 else if sgn b then 9218868437227405312 - (rg b : Int) else 9218868437227405313 + (rg b : Int)

def cmpZ (a b : Int) : Int := if a < b then -1 else if b < a then 1 else 0

theorem rk_ix (b : Nat) : (9218868437227405312 < rg b ∧ rk b = 9223372036854775807 ∧ ix b = 18437736874454810626) ∨ (rg b ≤ 9218868437227405312 ∧ ix b = rk b + 9218868437227405313 ∧ -9218868437227405313 ≤ rk b ∧ rk b ≤ 9218868437227405312) := by
  unfold rk ix
  repeat' split
  all_goals omega

theorem cmp_ix (a b : Nat) : cmpZ (ix a) (ix b) = cmpZ (rk a) (rk b) := by
  have h1 := rk_ix a
  have h2 := rk_ix b
  generalize rk a = x at *
  generalize rk b = y at *
  generalize ix a = z at *
  generalize ix b = u at *
  unfold cmpZ
  repeat' split
  all_goals omega

theorem eq_ix (a b : Nat) : (ix a == ix b) = (rk a == rk b) := by
  have h1 := rk_ix a
  have h2 := rk_ix b
  by_cases h : rk a = rk b
  · rw [beq_iff_eq.2 h]; simp; omega
  · rw [beq_eq_false_iff_ne.2 h]; simp; omega

theorem ford_self (b : Nat) (hb : b < 18446744073709551616) : (FloatKind.f64.format.order b b == some .eq) = decide (rg b ≤ 9218868437227405312) := by
  rw [ord_eq hb hb]
  unfold okW
  by_cases h : rg b ≤ 9218868437227405312
  · simp [h]
  · simp [h]

set_option maxHeartbeats 1000000 in
theorem rank_any (b : Nat) (w : World) (hb : b < 18446744073709551616) :
    Calls Try.prog 62 #[.float .f64 b] w fun e w' => e = .returned (.int .i64 (rk b)) ∧ w = w' := by
  have h1 := ext_bits b w
  have h3 := abs_bits b hb
  have hs := ford_self b hb
  have hl := rg_lt b
  have hd : sgn b = decide (9223372036854775808 ≤ b) := rfl
  have hr : rg b = b % 9223372036854775808 := rfl
  unfold rk
  by_cases hn : 9218868437227405312 < rg b
  · rw [if_pos hn]
    rw [decide_eq_false (by omega)] at hs
    have hs' : (FloatKind.f64.format.order b b != some .eq) = true := by rw [bne, hs]; rfl
    clear hs hl hd hr hn
    go_enter Try.func62, Try.ntmps62
    go_wp2
    go_ret
    exact ⟨rfl, rfl⟩
  · rw [if_neg hn]
    rw [decide_eq_true (by omega)] at hs
    have hs' : (FloatKind.f64.format.order b b != some .eq) = false := by rw [bne, hs]; rfl
    by_cases h : 9223372036854775808 ≤ b
    · rw [hd, decide_eq_true h, if_pos rfl]
      have ht : ((b : Int) / 9223372036854775808 == 1) = true := by simp; omega
      generalize rg b = r at *
      clear hs hd hr hn h
      go_enter Try.func62, Try.ntmps62
      go_wp2
      go_ret
      exact ⟨rfl, rfl⟩
    · rw [hd, decide_eq_false h, hr, if_neg (by simp), Nat.mod_eq_of_lt (by omega)]
      have ht : ((b : Int) / 9223372036854775808 == 1) = false := by simp; omega
      have hb2 : b < 9223372036854775808 := by omega
      clear hs hd hr hn h h3 hl
      go_enter Try.func62, Try.ntmps62
      go_wp2
      go_ret
      exact ⟨rfl, rfl⟩

theorem isnan_int (x : Int) (w : World) : Calls Try.prog 75 #[.int .i64 x] w fun e w' => e = .returned (.bool false) ∧ w = w' := by
  go_enter Try.func75, Try.ntmps75
  go_wp2
  go_ret
  exact ⟨rfl, rfl⟩

theorem cmpcompare_any (x y : Int) (w : World) : Calls Try.prog 61 #[.int .i64 x, .int .i64 y] w fun e w' => e = .returned (.int .i64 (cmpZ x y)) ∧ w = w' := by
  unfold cmpZ
  by_cases h1 : x < y
  · rw [if_pos h1]
    go_enter Try.func61, Try.ntmps61
    go_wp2_with (go_at_call 75; (with_reducible refine (isnan_int _ _).mono ?_); rintro e w' ⟨rfl, rfl⟩)
    go_ret
    exact ⟨rfl, rfl⟩
  · by_cases h2 : y < x
    · rw [if_neg h1, if_pos h2]
      go_enter Try.func61, Try.ntmps61
      go_wp2_with (go_at_call 75; (with_reducible refine (isnan_int _ _).mono ?_); rintro e w' ⟨rfl, rfl⟩)
      go_ret
      exact ⟨rfl, rfl⟩
    · rw [if_neg h1, if_neg h2]
      go_enter Try.func61, Try.ntmps61
      go_wp2_with (go_at_call 75; (with_reducible refine (isnan_int _ _).mono ?_); rintro e w' ⟨rfl, rfl⟩)
      go_ret
      exact ⟨rfl, rfl⟩

theorem order_any (x y : Nat) (w : World) (hx : x < 18446744073709551616) (hy : y < 18446744073709551616) :
    Calls Try.prog 43 #[.float .f64 x, .float .f64 y] w fun e w' => e = .returned (.int .i64 (cmpZ (rk x) (rk y))) ∧ w = w' := by
  have Kx := Lib.hid (fun v => rank_any x v hx)
  have Ky := Lib.hid (fun v => rank_any y v hy)
  have Kc := Lib.hid (fun v => cmpcompare_any (rk x) (rk y) v)
  generalize rk x = a at *
  generalize rk y = b at *
  generalize cmpZ a b = c at *
  go_enter Try.func43, Try.ntmps43
  go_wp2_with fail
  with_reducible refine (Kx.out _).mono ?_
  rintro e w' ⟨rfl, rfl⟩
  go_wp2_with fail
  with_reducible refine (Ky.out _).mono ?_
  rintro e w' ⟨rfl, rfl⟩
  go_wp2_with fail
  with_reducible refine (Kc.out _).mono ?_
  rintro e w' ⟨rfl, rfl⟩
  go_wp2
  go_ret
  exact ⟨rfl, rfl⟩

theorem same_any (x y : Nat) (w : World) (hx : x < 18446744073709551616) (hy : y < 18446744073709551616) :
    Calls Try.prog 44 #[.float .f64 x, .float .f64 y] w fun e w' => e = .returned (.bool (rk x == rk y)) ∧ w = w' := by
  have Kx := Lib.hid (fun v => rank_any x v hx)
  have Ky := Lib.hid (fun v => rank_any y v hy)
  generalize rk x = a at *
  generalize rk y = b at *
  go_enter Try.func44, Try.ntmps44
  go_wp2_with fail
  with_reducible refine (Kx.out _).mono ?_
  rintro e w' ⟨rfl, rfl⟩
  go_wp2_with fail
  with_reducible refine (Ky.out _).mono ?_
  rintro e w' ⟨rfl, rfl⟩
  go_wp2
  go_ret
  exact ⟨rfl, rfl⟩

def leastW (x y : Nat) : Nat := if rk x ≤ rk y then x else y

theorem cmpZ_le {a b : Int} : cmpZ a b ≤ 0 ↔ a ≤ b := by unfold cmpZ; repeat' split
                                                         all_goals omega

theorem cmpZ_lt {a b : Int} : cmpZ a b < 0 ↔ a < b := by unfold cmpZ; repeat' split
                                                         all_goals omega

theorem cmpZ_gt {a b : Int} : 0 < cmpZ a b ↔ b < a := by unfold cmpZ; repeat' split
                                                         all_goals omega

theorem least_any (x y : Nat) (w : World) (hx : x < 18446744073709551616) (hy : y < 18446744073709551616) :
    Calls Try.prog 50 #[.float .f64 x, .float .f64 y] w fun e w' => e = .returned (.float .f64 (leastW x y)) ∧ w = w' := by
  have K := Lib.hid (fun v => order_any x y v hx hy)
  have hc := @cmpZ_le (rk x) (rk y)
  unfold leastW
  by_cases h : rk x ≤ rk y
  · have h2 := hc.2 h
    rw [if_pos h]
    generalize cmpZ (rk x) (rk y) = c at *
    clear hc h
    go_enter Try.func50, Try.ntmps50
    go_wp2_with (go_at_call 43; (with_reducible refine (K.out _).mono ?_); rintro e w' ⟨rfl, rfl⟩)
    go_ret
    exact ⟨rfl, rfl⟩
  · have h2 : ¬ cmpZ (rk x) (rk y) ≤ 0 := fun h' => h (hc.1 h')
    rw [if_neg h]
    generalize cmpZ (rk x) (rk y) = c at *
    clear hc h
    go_enter Try.func50, Try.ntmps50
    go_wp2_with (go_at_call 43; (with_reducible refine (K.out _).mono ?_); rintro e w' ⟨rfl, rfl⟩)
    go_ret
    exact ⟨rfl, rfl⟩

def mostW (x y : Nat) : Nat := if rg y ≤ 9218868437227405312 ∧ (9218868437227405312 < rg x ∨ rk x < rk y) then y else x

set_option maxHeartbeats 1000000 in
theorem most_any (x y : Nat) (w : World) (hx : x < 18446744073709551616) (hy : y < 18446744073709551616) :
    Calls Try.prog 51 #[.float .f64 x, .float .f64 y] w fun e w' => e = .returned (.float .f64 (mostW x y)) ∧ w = w' := by
  have K := Lib.hid (fun v => order_any x y v hx hy)
  have hc := @cmpZ_lt (rk x) (rk y)
  have hsx := ford_self x hx
  have hsy := ford_self y hy
  have hsx' : (FloatKind.f64.format.order x x != some .eq) = !decide (rg x ≤ 9218868437227405312) := by rw [bne, hsx]
  unfold mostW
  generalize cmpZ (rk x) (rk y) = c at *
  by_cases h1 : rg y ≤ 9218868437227405312
  · rw [decide_eq_true h1] at hsy
    by_cases h2 : 9218868437227405312 < rg x
    · rw [if_pos ⟨h1, Or.inl h2⟩]
      rw [decide_eq_false (by omega)] at hsx'
      clear hc hsx h1 h2
      go_enter Try.func51, Try.ntmps51
      go_wp2
      go_ret
      exact ⟨rfl, rfl⟩
    · rw [decide_eq_true (by omega)] at hsx'
      by_cases h3 : rk x < rk y
      · rw [if_pos ⟨h1, Or.inr h3⟩]
        have h4 := hc.2 h3
        clear hc hsx h1 h2 h3
        go_enter Try.func51, Try.ntmps51
        go_wp2_with (go_at_call 43; (with_reducible refine (K.out _).mono ?_); rintro e w' ⟨rfl, rfl⟩)
        go_ret
        exact ⟨rfl, rfl⟩
      · rw [if_neg (by omega)]
        have h4 : ¬ c < 0 := fun h' => h3 (hc.1 h')
        clear hc hsx h1 h2 h3
        go_enter Try.func51, Try.ntmps51
        go_wp2_with (go_at_call 43; (with_reducible refine (K.out _).mono ?_); rintro e w' ⟨rfl, rfl⟩)
        go_ret
        exact ⟨rfl, rfl⟩
  · rw [if_neg (by omega)]
    rw [decide_eq_false h1] at hsy
    clear hc hsx hsx' h1
    go_enter Try.func51, Try.ntmps51
    go_wp2
    go_ret
    exact ⟨rfl, rfl⟩

theorem index_any (b : Nat) (w : World) : Calls Try.prog 33 #[.float .f64 b] w fun e w' => e = .returned (.int .u64 (ix b)) ∧ w = w' := by
  have K := Lib.hid (fun v => kind_ref b v)
  have Km := Lib.hid (fun v => minus_ref b v)
  have Ks := Lib.hid (fun v => size_ref b v)
  have hl := rg_lt b
  unfold ix
  by_cases h : 9218868437227405312 < rg b
  · rw [if_pos h]
    have hk : kindN (rg b) = 4 := by unfold kindN; rw [if_neg (by omega), if_neg (by omega), if_neg (by omega), if_neg (by omega)]
    rw [hk] at K
    clear hk h hl
    go_enter Try.func33, Try.ntmps33
    go_wp2_with (go_at_call 38; (with_reducible refine (K.out _).mono ?_); rintro e w' ⟨rfl, rfl⟩)
    go_ret
    exact ⟨rfl, rfl⟩
  · rw [if_neg h]
    have hk : ((kindN (rg b) : Int) == 4) = false := by
      have : kindN (rg b) < 4 := by unfold kindN; repeat' split
                                    all_goals omega
      simp; omega
    generalize kindN (rg b) = k at *
    generalize rg b = r at *
    generalize sgn b = s at *
    cases s
    · rw [if_neg (by simp)]
      go_enter Try.func33, Try.ntmps33
      go_wp2_with (first | (go_at_call 38; (with_reducible refine (K.out _).mono ?_); rintro e w' ⟨rfl, rfl⟩) | (go_at_call 39; (with_reducible refine (Km.out _).mono ?_); rintro e w' ⟨rfl, rfl⟩) | (go_at_call 57; (with_reducible refine (Ks.out _).mono ?_); rintro e w' ⟨rfl, rfl⟩))
      go_ret
      exact ⟨rfl, rfl⟩
    · rw [if_pos rfl]
      go_enter Try.func33, Try.ntmps33
      go_wp2_with (first | (go_at_call 38; (with_reducible refine (K.out _).mono ?_); rintro e w' ⟨rfl, rfl⟩) | (go_at_call 39; (with_reducible refine (Km.out _).mono ?_); rintro e w' ⟨rfl, rfl⟩) | (go_at_call 57; (with_reducible refine (Ks.out _).mono ?_); rintro e w' ⟨rfl, rfl⟩))
      go_ret
      exact ⟨rfl, rfl⟩

theorem rorder_any (x y : Nat) (w : World) :
    Calls Try.prog 63 #[.float .f64 x, .float .f64 y] w fun e w' => e = .returned (.int .i64 (cmpZ (rk x) (rk y))) ∧ w = w' := by
  rw [← cmp_ix]
  have Kx := Lib.hid (fun v => index_any x v)
  have Ky := Lib.hid (fun v => index_any y v)
  generalize ix x = a at *
  generalize ix y = b at *
  unfold cmpZ
  by_cases h1 : a < b
  · rw [if_pos h1]
    go_enter Try.func63, Try.ntmps63
    go_wp2_with fail
    with_reducible refine (Kx.out _).mono ?_
    rintro e w' ⟨rfl, rfl⟩
    go_wp2_with fail
    with_reducible refine (Ky.out _).mono ?_
    rintro e w' ⟨rfl, rfl⟩
    go_wp2
    go_ret
    exact ⟨rfl, rfl⟩
  · by_cases h2 : b < a
    · rw [if_neg h1, if_pos h2]
      go_enter Try.func63, Try.ntmps63
      go_wp2_with fail
      with_reducible refine (Kx.out _).mono ?_
      rintro e w' ⟨rfl, rfl⟩
      go_wp2_with fail
      with_reducible refine (Ky.out _).mono ?_
      rintro e w' ⟨rfl, rfl⟩
      go_wp2
      go_ret
      exact ⟨rfl, rfl⟩
    · rw [if_neg h1, if_neg h2]
      go_enter Try.func63, Try.ntmps63
      go_wp2_with fail
      with_reducible refine (Kx.out _).mono ?_
      rintro e w' ⟨rfl, rfl⟩
      go_wp2_with fail
      with_reducible refine (Ky.out _).mono ?_
      rintro e w' ⟨rfl, rfl⟩
      go_wp2
      go_ret
      exact ⟨rfl, rfl⟩

theorem rsame_any (x y : Nat) (w : World) :
    Calls Try.prog 15 #[.float .f64 x, .float .f64 y] w fun e w' => e = .returned (.bool (rk x == rk y)) ∧ w = w' := by
  rw [← eq_ix]
  have Kx := Lib.hid (fun v => index_any x v)
  have Ky := Lib.hid (fun v => index_any y v)
  generalize ix x = a at *
  generalize ix y = b at *
  go_enter Try.func15, Try.ntmps15
  go_wp2_with fail
  with_reducible refine (Kx.out _).mono ?_
  rintro e w' ⟨rfl, rfl⟩
  go_wp2_with fail
  with_reducible refine (Ky.out _).mono ?_
  rintro e w' ⟨rfl, rfl⟩
  go_wp2
  go_ret
  exact ⟨rfl, rfl⟩

theorem rleast_any (x y : Nat) (w : World) :
    Calls Try.prog 54 #[.float .f64 x, .float .f64 y] w fun e w' => e = .returned (.float .f64 (leastW x y)) ∧ w = w' := by
  have K := Lib.hid (fun v => rorder_any y x v)
  have hc := @cmpZ_lt (rk y) (rk x)
  unfold leastW
  by_cases h : rk x ≤ rk y
  · have h2 : ¬ cmpZ (rk y) (rk x) < 0 := fun h' => by have := hc.1 h'; omega
    rw [if_pos h]
    generalize cmpZ (rk y) (rk x) = c at *
    clear hc h
    go_enter Try.func54, Try.ntmps54
    go_wp2_with (go_at_call 63; (with_reducible refine (K.out _).mono ?_); rintro e w' ⟨rfl, rfl⟩)
    go_ret
    exact ⟨rfl, rfl⟩
  · have h2 := hc.2 (by omega)
    rw [if_neg h]
    generalize cmpZ (rk y) (rk x) = c at *
    clear hc h
    go_enter Try.func54, Try.ntmps54
    go_wp2_with (go_at_call 63; (with_reducible refine (K.out _).mono ?_); rintro e w' ⟨rfl, rfl⟩)
    go_ret
    exact ⟨rfl, rfl⟩

/-- The reference's Most. -/
def mostR (x y : Nat) : Nat := if 9218868437227405312 < rg x then y else if 9218868437227405312 < rg y ∨ rk y < rk x then x else y

theorem kind_is4 (r : Nat) : ((kindN r : Int) == 4) = decide (9218868437227405312 < r) := by
  unfold kindN
  repeat' split
  all_goals (simp; omega)

set_option maxHeartbeats 1000000 in
theorem rmost_any (x y : Nat) (w : World) :
    Calls Try.prog 55 #[.float .f64 x, .float .f64 y] w fun e w' => e = .returned (.float .f64 (mostR x y)) ∧ w = w' := by
  have Ko := Lib.hid (fun v => rorder_any x y v)
  have Kx := Lib.hid (fun v => kind_ref x v)
  have Ky := Lib.hid (fun v => kind_ref y v)
  have hc := @cmpZ_gt (rk x) (rk y)
  have hx4 := kind_is4 (rg x)
  have hy4 := kind_is4 (rg y)
  unfold mostR
  generalize cmpZ (rk x) (rk y) = c at *
  generalize kindN (rg x) = kx at *
  generalize kindN (rg y) = ky at *
  by_cases h1 : 9218868437227405312 < rg x
  · rw [if_pos h1]
    rw [decide_eq_true h1] at hx4
    clear hc h1 hy4
    go_enter Try.func55, Try.ntmps55
    go_wp2_with (go_at_call 38; (with_reducible refine (Kx.out _).mono ?_); rintro e w' ⟨rfl, rfl⟩)
    go_ret
    exact ⟨rfl, rfl⟩
  · rw [if_neg h1]
    rw [decide_eq_false h1] at hx4
    by_cases h2 : 9218868437227405312 < rg y
    · rw [if_pos (Or.inl h2)]
      rw [decide_eq_true h2] at hy4
      clear hc h1 h2
      go_enter Try.func55, Try.ntmps55
      go_wp2_with (first | (go_at_call 38; (with_reducible refine (Kx.out _).mono ?_); rintro e w' ⟨rfl, rfl⟩) | (go_at_call 38; (with_reducible refine (Ky.out _).mono ?_); rintro e w' ⟨rfl, rfl⟩))
      go_ret
      exact ⟨rfl, rfl⟩
    · rw [decide_eq_false h2] at hy4
      by_cases h3 : rk y < rk x
      · rw [if_pos (Or.inr h3)]
        have h4 := hc.2 h3
        clear hc h1 h2 h3
        go_enter Try.func55, Try.ntmps55
        go_wp2_with (first | (go_at_call 38; (with_reducible refine (Kx.out _).mono ?_); rintro e w' ⟨rfl, rfl⟩) | (go_at_call 38; (with_reducible refine (Ky.out _).mono ?_); rintro e w' ⟨rfl, rfl⟩) | (go_at_call 63; (with_reducible refine (Ko.out _).mono ?_); rintro e w' ⟨rfl, rfl⟩))
        go_ret
        exact ⟨rfl, rfl⟩
      · rw [if_neg (by omega)]
        have h4 : ¬ 0 < c := fun h' => h3 (hc.1 h')
        clear hc h1 h2 h3
        go_enter Try.func55, Try.ntmps55
        go_wp2_with (first | (go_at_call 38; (with_reducible refine (Kx.out _).mono ?_); rintro e w' ⟨rfl, rfl⟩) | (go_at_call 38; (with_reducible refine (Ky.out _).mono ?_); rintro e w' ⟨rfl, rfl⟩) | (go_at_call 63; (with_reducible refine (Ko.out _).mono ?_); rintro e w' ⟨rfl, rfl⟩))
        go_ret
        exact ⟨rfl, rfl⟩
end Go.Proofs.Ytecbbdbeihiioaa
