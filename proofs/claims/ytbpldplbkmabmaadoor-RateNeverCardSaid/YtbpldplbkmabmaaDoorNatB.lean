/- Plain laws for comparing, taking away, shifting and counting bits of lists of digits. No program's run in this text. -/
import Derived.Test.YtbpldplbkmabmaaDoorNatA
import Derived.Laws.MathBits
namespace Go.Proofs.YtbpldplbkmabmaaDoor
open Go.RowKit

theorem split_val {l : List Nat} {m : Nat} (h : m < l.length) : valL l = valL (l.take m) + 4294967296 ^ m * (l.getD m 0 + 4294967296 * valL (l.drop (m + 1))) := by
  rw [← drop_val h]
  conv => lhs; rw [← List.take_append_drop m l]
  rw [valL_append, List.length_take, show min m l.length = m by omega]

theorem take_lt {l : List Nat} (hd : ∀ d ∈ l, d < 4294967296) (m : Nat) (h : m ≤ l.length) : valL (l.take m) < 4294967296 ^ m := by
  have := valL_lt (l.take m) (fun d hx => hd d (List.mem_of_mem_take hx))
  rwa [List.length_take, show min m l.length = m by omega] at this

theorem len_lt {la lb : List Nat} (ha : NormL la) (hb : NormL lb) (h : la.length < lb.length) : valL la < valL lb := by
  have h1 := valL_lt la ha.1
  have h2 := norm_ge hb (by omega)
  have h3 : 4294967296 ^ la.length ≤ 4294967296 ^ (lb.length - 1) := Nat.pow_le_pow_right (by decide) (by omega)
  omega

theorem digit_lt {la lb : List Nat} (ha : NormL la) (hl : la.length = lb.length) {m : Nat} (hm : m < la.length)
    (he : la.drop (m + 1) = lb.drop (m + 1)) (h : la.getD m 0 < lb.getD m 0) : valL la < valL lb := by
  rw [split_val hm, split_val (l := lb) (m := m) (by omega), he]
  have h1 := take_lt ha.1 m (by omega)
  have h2 : 4294967296 ^ m * (la.getD m 0 + 1) ≤ 4294967296 ^ m * lb.getD m 0 := Nat.mul_le_mul_left _ h
  rw [Nat.mul_add] at h2 ⊢
  rw [Nat.mul_add]
  omega

/-- -1, 0 or 1. -/
def cmpI (a b : Nat) : Int := if a < b then -1 else if b < a then 1 else 0
theorem cmpI_lt {a b : Nat} (h : a < b) : cmpI a b = -1 := if_pos h
theorem cmpI_gt {a b : Nat} (h : b < a) : cmpI a b = 1 := by unfold cmpI; rw [if_neg (by omega), if_pos h]
theorem cmpI_eq (a : Nat) : cmpI a a = 0 := by unfold cmpI; rw [if_neg (by omega), if_neg (by omega)]
theorem cmpI_le {a b : Nat} : cmpI a b ≤ 0 ↔ a ≤ b := by unfold cmpI; split <;> (try split) <;> omega

theorem drop_eq_step {la lb : List Nat} {m : Nat} (ha : m < la.length) (hb : m < lb.length) (he : la.drop (m + 1) = lb.drop (m + 1)) (h : la.getD m 0 = lb.getD m 0) : la.drop m = lb.drop m := by
  rw [List.drop_eq_getElem_cons ha, List.drop_eq_getElem_cons hb, he]
  congr 1
  rw [List.getD_eq_getElem?_getD, List.getElem?_eq_getElem ha, List.getD_eq_getElem?_getD, List.getElem?_eq_getElem hb] at h
  exact h

/-- What the loop of a difference keeps. -/
def MinusRel (B g : Nat) (w : World) (la lb : List Nat) (k bw : Nat) (wr : World) : Prop :=
  ∃ cs : List Nat, cs.length = la.length ∧ (∀ d ∈ cs, d < 4294967296) ∧ (∀ q, k ≤ q → cs.getD q 0 = 0) ∧ OwnD wr B g cs ∧
    valL cs + valL (lb.take k) = valL (la.take k) + 4294967296 ^ k * bw ∧ Below B w wr

theorem minus_step {B g : Nat} {w wr : World} {la lb cs : List Nat} {k bw : Nat}
    (h1 : cs.length = la.length) (h2 : ∀ d ∈ cs, d < 4294967296) (h3 : ∀ q, k ≤ q → cs.getD q 0 = 0) (h4 : OwnD wr B g cs)
    (h5 : valL cs + valL (lb.take k) = valL (la.take k) + 4294967296 ^ k * bw) (h6 : Below B w wr) (hk : k < la.length) (hbw : bw ≤ 1)
    (hx : la.getD k 0 < 4294967296) (hy : lb.getD k 0 < 4294967296) :
    MinusRel B g w la lb (k + 1) (1 - (la.getD k 0 + 4294967296 - bw - lb.getD k 0) / 4294967296)
      (wr.setCell ⟨g, k, none⟩ (.int .u64 (((la.getD k 0 + 4294967296 - bw - lb.getD k 0) % 4294967296 : Nat) : Int))) := by
  refine ⟨cs.set k ((la.getD k 0 + 4294967296 - bw - lb.getD k 0) % 4294967296), by simp [h1], set_digits h2 (Nat.mod_lt _ (by decide)), ?_, h4.stored _ _, ?_, h6.setCell (by exact h4.le) _⟩
  · intro q hq
    rw [getD_set_ne (by omega)]
    exact h3 q (by omega)
  · have e := set_val cs k ((la.getD k 0 + 4294967296 - bw - lb.getD k 0) % 4294967296) (by omega)
    rw [h3 _ (Nat.le_refl _)] at e
    rw [take_val la k, take_val lb k, Nat.pow_succ]
    generalize la.getD k 0 = x at *
    generalize lb.getD k 0 = y at *
    generalize valL (cs.set k ((x + 4294967296 - bw - y) % 4294967296)) = r at *
    generalize 4294967296 ^ k = p at *
    have e1 := Nat.div_add_mod (x + 4294967296 - bw - y) 4294967296
    have hq : (x + 4294967296 - bw - y) / 4294967296 ≤ 1 := by omega
    generalize (x + 4294967296 - bw - y) / 4294967296 = q at *
    generalize (x + 4294967296 - bw - y) % 4294967296 = z at *
    have e2 : bw + z + y = x + 4294967296 * (1 - q) := by omega
    have e3 : p * (bw + z + y) = p * (x + 4294967296 * (1 - q)) := by rw [e2]
    rw [Nat.mul_add, Nat.mul_add, Nat.mul_add, ← Nat.mul_assoc] at e3
    omega

theorem minus_end {la lb cs : List Nat} {bw : Nat} (hl : cs.length = la.length) (hd : ∀ d ∈ cs, d < 4294967296) (hb : lb.length ≤ la.length)
    (h5 : valL cs + valL (lb.take la.length) = valL (la.take la.length) + 4294967296 ^ la.length * bw) (h : valL lb ≤ valL la) : valL cs = valL la - valL lb := by
  rw [List.take_length, List.take_of_length_le hb] at h5
  have h1 := valL_lt cs hd
  rw [hl] at h1
  cases bw with
  | zero => omega
  | succ b =>
    rw [Nat.mul_add] at h5
    have := Nat.zero_le (4294967296 ^ la.length * b)
    omega

/-- What the loop of a shift keeps. -/
def LeftRel (B : Nat) (w : World) (la : List Nat) (q s k : Nat) (c : Value) (cy : Nat) (wr : World) : Prop :=
  ∃ cs : List Nat, cs.length = q + k ∧ (∀ d ∈ cs, d < 4294967296) ∧ wr.ownsRow B 22 1 c cs.length (cs.map dgt) ∧
    valL cs + 4294967296 ^ (q + k) * cy = 4294967296 ^ q * (2 ^ s * valL (la.take k)) ∧ Below B w wr

theorem left_step {B : Nat} {w wr w1 : World} {la cs : List Nat} {q s k cy : Nat} {c c1 : Value} {x : Int}
    (hl : cs.length = q + k) (hd : ∀ d ∈ cs, d < 4294967296) (hv : valL cs + 4294967296 ^ (q + k) * cy = 4294967296 ^ q * (2 ^ s * valL (la.take k))) (hb : Below B w wr) (hB : B ≤ wr.heap.size)
    (hc : ∀ g, c.ownBlock = some g → B ≤ g)
    (o : Obj) (hown : w1.ownsRow B 22 1 c1 (q + k + 1) (cs.map dgt ++ [.int .u64 x])) (hg : (wr.alloc o).grownBy w1 c.ownBlock)
    (hx : x = (((la.getD k 0 * 2 ^ s + cy) % 4294967296 : Nat) : Int)) :
    LeftRel B w la q s (k + 1) c1 ((la.getD k 0 * 2 ^ s + cy) / 4294967296) w1 := by
  refine ⟨cs ++ [(la.getD k 0 * 2 ^ s + cy) % 4294967296], by simp [hl]; omega, ?_, own_snoc hown hl _ hx, ?_, ?_⟩
  · intro d h
    rcases List.mem_append.1 h with h | h
    · exact hd d h
    · simp at h; rw [h]; exact Nat.mod_lt _ (by decide)
  · rw [valL_append, take_val, hl, ← Nat.add_assoc q k 1, Nat.pow_succ]
    simp only [valL]
    generalize la.getD k 0 = y
    have e3 : 4294967296 ^ q * (2 ^ s * (valL (la.take k) + 4294967296 ^ k * y)) = 4294967296 ^ q * (2 ^ s * valL (la.take k)) + 4294967296 ^ (q + k) * (y * 2 ^ s) := by
      rw [Nat.mul_add, Nat.mul_add, Nat.pow_add]
      congr 1
      rw [Nat.mul_left_comm (2 ^ s), Nat.mul_assoc, Nat.mul_comm (2 ^ s) y]
    rw [e3]
    generalize 4294967296 ^ q * (2 ^ s * valL (la.take k)) = m at *
    generalize 4294967296 ^ (q + k) = p at *
    generalize y * 2 ^ s = z at *
    have e := Nat.div_add_mod (z + cy) 4294967296
    rw [Nat.mul_assoc p 4294967296 _, Nat.mul_zero, Nat.add_zero, Nat.add_assoc, ← Nat.mul_add, Nat.add_comm ((z + cy) % 4294967296), e, Nat.mul_add]
    omega
  · exact (hb.alloc hB o).grown hg (by simp; omega) hc

theorem left_end {la cs : List Nat} {q s k cy : Nat} (hl : cs.length = q + k) (hk : la.length ≤ k) (n : Nat) (hq : n = 32 * q + s)
    (hv : valL cs + 4294967296 ^ (q + k) * cy = 4294967296 ^ q * (2 ^ s * valL (la.take k))) : valL (cs ++ [cy]) = valL la * 2 ^ n := by
  rw [valL_append, hl]
  simp only [valL, Nat.mul_zero, Nat.add_zero]
  rw [hv, List.take_of_length_le hk, show (4294967296 : Nat) = 2 ^ 32 from rfl, ← Nat.pow_mul, ← Nat.mul_assoc, ← Nat.pow_add, hq, Nat.mul_comm]

theorem carry_lt {y p cy : Nat} (hy : y < 4294967296) (hc : cy < p) : (y * p + cy) / 4294967296 < p := by
  apply Nat.div_lt_of_lt_mul
  have : (y + 1) * p ≤ 4294967296 * p := Nat.mul_le_mul_right _ hy
  rw [Nat.add_mul] at this
  omega

theorem size_val {l : List Nat} (h : NormL l) (h0 : 0 < l.length) : bitLen (valL l) = 32 * (l.length - 1) + bitLen (l.getD (l.length - 1) 0) := by
  have hs := split_val (l := l) (m := l.length - 1) (by omega)
  rw [show l.length - 1 + 1 = l.length by omega, List.drop_length] at hs
  simp only [valL, Nat.mul_zero, Nat.add_zero] at hs
  have ht := take_lt h.1 (l.length - 1) (by omega)
  have hdiv : valL l / 2 ^ (32 * (l.length - 1)) = l.getD (l.length - 1) 0 := by
    rw [Nat.pow_mul, show (2 : Nat) ^ 32 = 4294967296 from rfl, hs, Nat.add_mul_div_left _ _ (Nat.pow_pos (by decide)), Nat.div_eq_of_lt ht, Nat.zero_add]
  have hne : l.getD (l.length - 1) 0 ≠ 0 := by
    intro h3
    have h2 := norm_ge h h0
    rw [hs, h3] at h2
    omega
  rw [bitLen_shift (valL l) (32 * (l.length - 1)) (by rw [hdiv]; exact hne), hdiv]

theorem bitLen_step {x : Nat} (h : 0 < x) : bitLen x = bitLen (x / 2) + 1 := by
  by_cases h2 : x / 2 = 0
  · have : x = 1 := by omega
    subst this
    decide
  · have := bitLen_shift x 1 (by simpa using h2)
    simp at this
    omega

theorem bitLen_lt {n m : Nat} (h : n < 2 ^ m) : bitLen n ≤ m := by
  unfold bitLen
  split
  · omega
  · rename_i h0
    have := (Nat.log2_lt h0).2 h
    omega

/-- Division: the numbers that the loop keeps. -/
theorem quo_start {na nb : Nat} (hb : 0 < nb) {j : Nat} (hj : bitLen na ≤ bitLen nb + j) : na < nb * 2 ^ (j + 1) := by
  have h1 := (bitLen_spec na).1
  have h2 := (bitLen_spec nb).2 (by omega)
  have h3 : (2 : Nat) ^ bitLen na ≤ 2 ^ (bitLen nb - 1 + (j + 1)) := Nat.pow_le_pow_right (by decide) (by omega)
  rw [Nat.pow_add] at h3
  have h4 : 2 ^ (bitLen nb - 1) * 2 ^ (j + 1) ≤ nb * 2 ^ (j + 1) := Nat.mul_le_mul_right _ h2
  omega

theorem quo_small {na nb : Nat} (hj : bitLen na < bitLen nb) : na < nb := by
  have h1 := (bitLen_spec na).1
  have hb : nb ≠ 0 := by intro h; subst h; simp [bitLen] at hj
  have h2 := (bitLen_spec nb).2 hb
  have h3 : (2 : Nat) ^ bitLen na ≤ 2 ^ (bitLen nb - 1) := Nat.pow_le_pow_right (by decide) (by omega)
  omega

theorem quo_end {na nb q r : Nat} (h : na = q * nb + r) (hr : r < nb) : q = na / nb ∧ r = na % nb := by
  subst h
  rw [Nat.mul_comm, Nat.mul_add_div (by omega), Nat.mul_add_mod, Nat.div_eq_of_lt hr, Nat.mod_eq_of_lt hr]
  simp

end Go.Proofs.YtbpldplbkmabmaaDoor
