/- Natural numbers as lists of digits below 2^32, the lowest first; slices of digits in memory. No program's run in this text. -/
import Derived.Test.YtecbbdbeihiioaaProg
import Derived.WalkKit
import Derived.WalkSpells
import Derived.WalkLawsBesides
import Derived.Lib.Hide
namespace Go.Proofs.Ytecbbdbeihiioaa
open Go.RowKit

/-- The number of a list of digits. -/
def valL : List Nat → Nat
  | [] => 0
  | d :: l => d + 4294967296 * valL l

/-- Digits below 2^32, the last one not 0. -/
def NormL (l : List Nat) : Prop := (∀ d ∈ l, d < 4294967296) ∧ l.getLast? ≠ some 0

/-- A slice of 64-bit words in memory that reads as l. -/
def Dig (w : World) (v : Value) (l : List Nat) : Prop :=
  ∃ a c, v = .slice a l.length c ∧ l.length ≤ c ∧ c ≤ maxLen ∧ (0 < l.length → ∃ b off, a = some ⟨b, off, none⟩ ∧ ∀ i, i < l.length → w.cell? ⟨b, off + i, none⟩ = some (.int .u64 (l.getD i 0 : Nat)))

/-- A slice of digits in memory that is the number n. -/
def IsN (w : World) (v : Value) (n : Nat) : Prop := ∃ l, Dig w v l ∧ NormL l ∧ valL l = n

/-- A call's end: it returned a slice that is the number n; all that there was before is as it was. -/
def NatRes (w : World) (n : Nat) (e : Ending) (w' : World) : Prop := ∃ v, e = .returned v ∧ IsN w' v n ∧ Below w.heap.size w w'

theorem Dig.later {w w' : World} {v : Value} {l : List Nat} (h : Dig w v l) (hb : Below w.heap.size w w') : Dig w' v l := by
  obtain ⟨a, c, hv, hl, hc, hr⟩ := h
  refine ⟨a, c, hv, hl, hc, fun h0 => ?_⟩
  obtain ⟨b, off, ha, hcell⟩ := hr h0
  exact ⟨b, off, ha, fun i hi => cell_later hb (hcell i hi)⟩

theorem IsN.later {w w' : World} {v : Value} {n : Nat} (h : IsN w v n) (hb : Below w.heap.size w w') : IsN w' v n := by
  obtain ⟨l, hd, hn, hv⟩ := h
  exact ⟨l, hd.later hb, hn, hv⟩

theorem below_drewN {B : Nat} {a w : World} (h : Below B a w) (n : Nat) : Below B a (w.drewN n) := by
  exact Go.below_drewN h n

/-- The list without noughts at its end. -/
def cutL (l : List Nat) : Nat → List Nat
  | 0 => []
  | k + 1 => if l.getD k 0 = 0 then cutL l k else l.take (k + 1)

theorem cutL_no {l : List Nat} {k : Nat} (h : l.getD k 0 = 0) : cutL l (k + 1) = cutL l k := by unfold cutL; rw [if_pos h]; cases k <;> rfl
theorem cutL_yes {l : List Nat} {k : Nat} (h : ¬ l.getD k 0 = 0) : cutL l (k + 1) = l.take (k + 1) := by unfold cutL; rw [if_neg h]

theorem valL_append (l m : List Nat) : valL (l ++ m) = valL l + 4294967296 ^ l.length * valL m := by
  induction l with
  | nil => simp [valL]
  | cons d l ih => simp only [List.cons_append, valL, ih, List.length_cons, Nat.pow_succ, Nat.mul_add]; rw [Nat.mul_comm (4294967296 ^ l.length) 4294967296, Nat.mul_assoc]; omega

theorem valL_lt (l : List Nat) (h : ∀ d ∈ l, d < 4294967296) : valL l < 4294967296 ^ l.length := by
  induction l with
  | nil => simp [valL]
  | cons d l ih =>
    have h1 := ih fun x hx => h x (List.mem_cons_of_mem _ hx)
    have h2 := h d List.mem_cons_self
    simp only [valL, List.length_cons, Nat.pow_succ]
    omega

theorem getD_mem {l : List Nat} {k : Nat} (h : k < l.length) : l.getD k 0 ∈ l := by
  rw [List.getD_eq_getElem?_getD, List.getElem?_eq_getElem h]
  exact List.getElem_mem h

theorem take_snoc {l : List Nat} {k : Nat} (h : k < l.length) : l.take (k + 1) = l.take k ++ [l.getD k 0] := by
  rw [List.take_succ_eq_append_getElem h, List.getD_eq_getElem?_getD, List.getElem?_eq_getElem h]; rfl

theorem cutL_take (l : List Nat) : ∀ k, k ≤ l.length → ∃ j, j ≤ k ∧ cutL l k = l.take j ∧ (j = 0 ∨ l.getD (j - 1) 0 ≠ 0) ∧ valL (l.take k) = valL (l.take j) := by
  intro k
  induction k with
  | zero => intro _; exact ⟨0, Nat.le_refl _, by simp [cutL], Or.inl rfl, rfl⟩
  | succ k ih =>
    intro hk
    by_cases hd : l.getD k 0 = 0
    · obtain ⟨j, h1, h2, h3, h4⟩ := ih (by omega)
      refine ⟨j, by omega, by rw [cutL_no hd, h2], h3, ?_⟩
      rw [take_snoc (by omega), valL_append, hd, ← h4]
      simp [valL]
    · exact ⟨k + 1, Nat.le_refl _, cutL_yes hd, Or.inr hd, rfl⟩

theorem cutL_val (l : List Nat) : valL (cutL l l.length) = valL l := by
  obtain ⟨j, _, h2, _, h4⟩ := cutL_take l l.length (Nat.le_refl _)
  rw [h2, ← h4, List.take_length]

theorem cutL_norm (l : List Nat) (h : ∀ d ∈ l, d < 4294967296) : NormL (cutL l l.length) := by
  obtain ⟨j, h1, h2, h3, _⟩ := cutL_take l l.length (Nat.le_refl _)
  rw [h2]
  refine ⟨fun d hd => h d (List.mem_of_mem_take hd), ?_⟩
  rcases h3 with rfl | h3
  · simp
  · by_cases hj : j = 0
    · subst hj; simp
    · obtain ⟨i, rfl⟩ := Nat.exists_eq_succ_of_ne_zero hj
      rw [take_snoc (by omega)]
      simpa using h3

/-- A normed list of k + 1 digits is at least base ^ k. -/
theorem norm_ge {l : List Nat} (h : NormL l) (h0 : 0 < l.length) : 4294967296 ^ (l.length - 1) ≤ valL l := by
  obtain ⟨_, h2⟩ := h
  have hl : l = l.take (l.length - 1) ++ [l.getD (l.length - 1) 0] := by
    rw [← take_snoc (by omega)]
    rw [show l.length - 1 + 1 = l.length by omega, List.take_length]
  have hne : l.getD (l.length - 1) 0 ≠ 0 := by
    intro h3
    apply h2
    rw [hl, h3]
    simp
  have hv : valL l = valL (l.take (l.length - 1)) + 4294967296 ^ (l.length - 1) * l.getD (l.length - 1) 0 := by
    conv => lhs; rw [hl]
    rw [valL_append]
    simp only [valL, List.length_take]
    rw [show min (l.length - 1) l.length = l.length - 1 by omega]
    simp
  rw [hv]
  have : 4294967296 ^ (l.length - 1) * 1 ≤ 4294967296 ^ (l.length - 1) * l.getD (l.length - 1) 0 := Nat.mul_le_mul_left _ (by omega)
  omega

theorem valL_two (n : Nat) : valL [n % 4294967296, n / 4294967296] = n := by simp only [valL]; omega

theorem dig_two (w : World) (x y : Int) (p q : Nat) (hx : x = (p : Int)) (hy : y = (q : Int)) :
    Dig (w.alloc (.cells #[.int .u64 x, .int .u64 y] 35)) (.slice (some ⟨w.heap.size, 0, none⟩) 2 2) [p, q] := by
  subst hx hy
  refine ⟨_, 2, rfl, Nat.le_refl _, by decide, fun _ => ⟨_, 0, rfl, fun i hi => ?_⟩⟩
  match i, hi with
  | 0, _ => simp [go_sem]
  | 1, _ => simp [go_sem]

theorem below_past {w w' : World} {o : Obj} (h : Below (w.alloc o).heap.size (w.alloc o) w') : Below w.heap.size w w' :=
  ((Below.refl _ w).alloc (Nat.le_refl _) o).trans (h.mono (by simp))

theorem drop_val {l : List Nat} {k : Nat} (h : k < l.length) : valL (l.drop k) = l.getD k 0 + 4294967296 * valL (l.drop (k + 1)) := by
  rw [List.drop_eq_getElem_cons h, List.getD_eq_getElem?_getD, List.getElem?_eq_getElem h]; rfl

theorem mod_step (v d : Nat) : (v % 18446744073709551616 * 4294967296 + d) % 18446744073709551616 = (d + 4294967296 * v) % 18446744073709551616 := by omega

theorem wrap_two (y d : Nat) : IntKind.u64.wrap (IntKind.u64.wrap ((y : Int) * 4294967296) + (d : Int)) = (((y * 4294967296 + d) % 18446744073709551616 : Nat) : Int) := by
  simp only [IntKind.wrap_u64]; omega

theorem fits_iff {l : List Nat} (h : NormL l) : decide (((l.length : Nat) : Int) ≤ 2) = decide (valL l < 18446744073709551616) := by
  have h1 := valL_lt l h.1
  by_cases hl : l.length ≤ 2
  · have : 4294967296 ^ l.length ≤ 4294967296 ^ 2 := Nat.pow_le_pow_right (by decide) hl
    have e : (4294967296 : Nat) ^ 2 = 18446744073709551616 := by decide
    rw [decide_eq_true (show ((l.length : Nat) : Int) ≤ 2 by omega), decide_eq_true (by omega)]
  · have h2 := norm_ge h (by omega)
    have : 4294967296 ^ 2 ≤ 4294967296 ^ (l.length - 1) := Nat.pow_le_pow_right (by decide) (by omega)
    have e : (4294967296 : Nat) ^ 2 = 18446744073709551616 := by decide
    rw [decide_eq_false (show ¬ ((l.length : Nat) : Int) ≤ 2 by omega), decide_eq_false (by omega)]

end Go.Proofs.Ytecbbdbeihiioaa
