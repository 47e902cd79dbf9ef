/- Seconds and Ratio: the answer as a word and a code, the same of the program and of the reference. -/
import Derived.Test.YtbpldplbkmabmaaDoorRlO
namespace Go.Proofs.YtbpldplbkmabmaaDoor
open Go.RowKit

theorem rat_exists {na nb : Nat} (ha : 0 < na) (hb : 0 < nb) (ha2 : na ≤ 9223372036854775808) (hb2 : nb ≤ 9223372036854775808) : ∃ r, RatNat na nb r := by
  have hbx := bit_le ha2
  have hby := bit_le hb2
  obtain ⟨-, -, hpx⟩ := bit_range ha
  obtain ⟨-, -, hpy⟩ := bit_range hb
  by_cases h : bitLen na ≤ 62 + bitLen nb
  · obtain ⟨S, hS⟩ : ∃ S, bitLen na + S = 62 + bitLen nb := ⟨62 + bitLen nb - bitLen na, by omega⟩
    obtain ⟨q1, q2, -⟩ := quot_up ha hb hS
    obtain ⟨t1, t2⟩ := stick_le63 q1 q2
    obtain ⟨R, -, f2, f3, f4⟩ := float_whole (stick (na * 2 ^ S) nb) 1074 rfl t1 t2
    obtain ⟨r, hr, -⟩ := rat_up rfl hb (by omega) f3 f4 f2
    exact ⟨r, hr⟩
  · obtain ⟨q1, q2, -⟩ := quot_down ha hb (show bitLen na = 63 + bitLen nb by omega)
    obtain ⟨t1, t2⟩ := stick_le63 q1 q2
    obtain ⟨R, -, f2, f3, f4⟩ := float_whole (stick na (nb * 2 ^ 1)) 1074 rfl t1 t2
    obtain ⟨r, hr, -⟩ := rat_down rfl hb f3 f4 f2
    exact ⟨r, hr⟩

theorem rat_unique {na nb r r' : Nat} (hb : 0 < nb) (h : RatNat na nb r) (h' : RatNat na nb r') : r = r' := near_same hb hb h.1 h'.1 rfl

/-- A float and a code. -/
def FE (w : World) (x f : Nat) (e : Ending) (w' : World) : Prop := e = .returned (.tuple #[.float .f64 x, .int .i64 f]) ∧ Below w.heap.size w w'

/-- The word and the code of Ratio. -/
def RatW (a b : Int) (x f : Nat) : Prop := (b = 0 ∧ x = 0 ∧ f = 5) ∨ (b ≠ 0 ∧ a = 0 ∧ x = 0 ∧ f = 0) ∨ (b ≠ 0 ∧ a ≠ 0 ∧ f = 0 ∧ ∃ r, RatNat a.natAbs b.natAbs r ∧ x = mkW (decide (a < 0) != decide (b < 0)) r)

theorem ratw_lt {a b : Int} {x f : Nat} (h : RatW a b x f) : x < 18446744073709551616 ∧ f ≤ 5 := by
  rcases h with ⟨-, rfl, rfl⟩ | ⟨-, -, rfl, rfl⟩ | ⟨-, -, rfl, r, hr, rfl⟩
  · exact ⟨by decide, by decide⟩
  · exact ⟨by decide, by decide⟩
  · exact ⟨mkW_lt (by have := hr.2.2; omega), by decide⟩

theorem ratw_exists (a b : Int) (ha1 : -9223372036854775808 ≤ a) (ha2 : a ≤ 9223372036854775807) (hb1 : -9223372036854775808 ≤ b) (hb2 : b ≤ 9223372036854775807) : ∃ x f, RatW a b x f := by
  by_cases hb : b = 0
  · exact ⟨_, _, Or.inl ⟨hb, rfl, rfl⟩⟩
  · by_cases ha : a = 0
    · exact ⟨_, _, Or.inr (Or.inl ⟨hb, ha, rfl, rfl⟩)⟩
    · obtain ⟨r, hr⟩ := rat_exists (na := a.natAbs) (nb := b.natAbs) (by omega) (by omega) (by omega) (by omega)
      exact ⟨_, _, Or.inr (Or.inr ⟨hb, ha, rfl, r, hr, rfl⟩)⟩

theorem ratio_w {a b : Int} {x f : Nat} (h : RatW a b x f) (ha1 : -9223372036854775808 ≤ a) (ha2 : a ≤ 9223372036854775807) (hb1 : -9223372036854775808 ≤ b) (hb2 : b ≤ 9223372036854775807) (w : World) :
    Calls Tryd.prog 41 #[.int .i64 a, .int .i64 b] w (FE w x f) := by
  rcases h with ⟨rfl, rfl, rfl⟩ | ⟨hb, rfl, rfl, rfl⟩ | ⟨hb, ha, rfl, r, hr, rfl⟩
  · exact (ratio_zero a w).mono fun e w' ⟨he, hw⟩ => ⟨he, by subst hw; exact Below.refl _ _⟩
  · exact (ratio_none b w hb).mono fun e w' ⟨he, hw⟩ => ⟨he, by subst hw; exact Below.refl _ _⟩
  · exact (ratio_some a b w ha1 ha2 hb1 hb2 ha hb).mono fun e w' ⟨r', he, hr', hw⟩ => ⟨by rw [he, rat_unique (by omega) hr' hr]; rfl, hw⟩

theorem docratio_w {a b : Int} {x f : Nat} (h : RatW a b x f) (ha1 : -9223372036854775808 ≤ a) (ha2 : a ≤ 9223372036854775807) (hb1 : -9223372036854775808 ≤ b) (hb2 : b ≤ 9223372036854775807) (w : World) :
    Calls Tryd.prog 42 #[.int .i64 a, .int .i64 b] w (FE w x f) := by
  rcases h with ⟨rfl, rfl, rfl⟩ | ⟨hb, rfl, rfl, rfl⟩ | ⟨hb, ha, rfl, r, hr, rfl⟩
  · exact (docratio_zero a w).mono fun e w' ⟨he, hw⟩ => ⟨he, by subst hw; exact Below.refl _ _⟩
  · exact (docratio_none b w hb1 hb2 hb).mono fun e w' ⟨he, hw⟩ => ⟨he, hw⟩
  · exact (docratio_some a b w ha1 ha2 hb1 hb2 ha hb).mono fun e w' ⟨r', he, hr', hw⟩ => ⟨by rw [he, rat_unique (by omega) hr' hr]; rfl, hw⟩

/-- The word and the code of Seconds. -/
def SecW (t hz : Int) (x f : Nat) : Prop := (secB t hz = false ∧ x = 0 ∧ f = 1) ∨ (secB t hz = true ∧ t = 0 ∧ x = 0 ∧ f = 0) ∨ (secB t hz = true ∧ 0 < t ∧ f = 0 ∧ RatNat t.natAbs hz.natAbs x)

theorem secw_lt {t hz : Int} {x f : Nat} (h : SecW t hz x f) : x < 9218868437227405312 ∧ f ≤ 5 := by
  rcases h with ⟨-, rfl, rfl⟩ | ⟨-, -, rfl, rfl⟩ | ⟨-, -, rfl, hr⟩
  · exact ⟨by decide, by decide⟩
  · exact ⟨by decide, by decide⟩
  · exact ⟨hr.2.2, by decide⟩

theorem secw_exists (t hz : Int) : ∃ x f, SecW t hz x f := by
  cases h : secB t hz with
  | false => exact ⟨_, _, Or.inl ⟨h, rfl, rfl⟩⟩
  | true =>
    obtain ⟨h1, h2, h3, h4⟩ := secB_yes h
    by_cases h0 : t = 0
    · exact ⟨_, _, Or.inr (Or.inl ⟨h, h0, rfl, rfl⟩)⟩
    · obtain ⟨r, hr⟩ := rat_exists (na := t.natAbs) (nb := hz.natAbs) (by omega) (by omega) (by omega) (by omega)
      exact ⟨_, _, Or.inr (Or.inr ⟨h, by omega, rfl, hr⟩)⟩

theorem seconds_w {t hz : Int} {x f : Nat} (h : SecW t hz x f) (w : World) :
    Calls Tryd.prog 39 #[.int .i64 t, .int .i64 hz] w (FE w x f) := by
  rcases h with ⟨hB, rfl, rfl⟩ | ⟨hB, rfl, rfl, rfl⟩ | ⟨hB, h0, rfl, hr⟩
  · exact (seconds_no t hz w hB).mono fun e w' ⟨he, hw⟩ => ⟨he, by subst hw; exact Below.refl _ _⟩
  · exact (seconds_zero hz w hB).mono fun e w' ⟨he, hw⟩ => ⟨he, by subst hw; exact Below.refl _ _⟩
  · have hb := secB_yes hB
    exact (seconds_some t hz w hB h0).mono fun e w' ⟨r', he, hr', hw⟩ => ⟨by rw [he, rat_unique (by omega) hr' hr]; rfl, hw⟩

theorem docseconds_w {t hz : Int} {x f : Nat} (h : SecW t hz x f) (w : World) :
    Calls Tryd.prog 40 #[.int .i64 t, .int .i64 hz] w (FE w x f) := by
  rcases h with ⟨hB, rfl, rfl⟩ | ⟨hB, rfl, rfl, rfl⟩ | ⟨hB, h0, rfl, hr⟩
  · exact (docseconds_no t hz w hB).mono fun e w' ⟨he, hw⟩ => ⟨he, by subst hw; exact Below.refl _ _⟩
  · exact (docseconds_zero hz w hB).mono fun e w' ⟨he, hw⟩ => ⟨he, hw⟩
  · have hb := secB_yes hB
    exact (docseconds_some t hz w hB h0).mono fun e w' ⟨r', he, hr', hw⟩ => ⟨by rw [he, rat_unique (by omega) hr' hr]; rfl, hw⟩
end Go.Proofs.YtbpldplbkmabmaaDoor
