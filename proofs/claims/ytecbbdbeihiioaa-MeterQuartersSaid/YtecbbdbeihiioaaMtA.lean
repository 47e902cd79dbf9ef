/- Sums, differences, products and quotients of whatever floats, up to the bits of a NaN. -/
import Derived.Test.YtecbbdbeihiioaaMtRlI
import Derived.Laws.FloatArith
import Derived.Deep.Draws
namespace Go.Proofs.Ytecbbdbeihiioaa
open Go.RowKit
set_option linter.unusedVariables false

/-- The NaN that stands for all. -/
def QN : Nat := 9221120237041090560
def nfW (c : Nat) : Nat := if 9218868437227405312 < rg c then QN else c
/-- The answer of an operation, up to a NaN's bits. -/
def fA (op : BinOp) (x y : Nat) : Nat := match floatBits op .f64 x y with | some r => r | none => QN

theorem nfW_lt {c : Nat} (h : c < 18446744073709551616) : nfW c < 18446744073709551616 := by unfold nfW QN; split <;> omega
theorem nfW_cases (c : Nat) : (9218868437227405312 < rg c ∧ nfW c = QN) ∨ (rg c ≤ 9218868437227405312 ∧ nfW c = c) := by
  unfold nfW
  by_cases h : 9218868437227405312 < rg c
  · exact Or.inl ⟨h, if_pos h⟩
  · exact Or.inr ⟨by omega, if_neg h⟩
theorem rg_QN : 9218868437227405312 < rg QN := by decide +kernel
theorem nfW_idem (c : Nat) : nfW (nfW c) = nfW c := by
  rcases nfW_cases c with ⟨h, e⟩ | ⟨h, e⟩
  · rw [e]; unfold nfW; rw [if_pos rg_QN]
  · rw [e, e]
theorem nfW_id {c : Nat} (h : rg c ≤ 9218868437227405312) : nfW c = c := by unfold nfW; rw [if_neg (by omega)]

theorem fb_left {op : BinOp} {x y : Nat} (hop : op = .add ∨ op = .sub ∨ op = .mul ∨ op = .quo) (hx : x < 18446744073709551616) (h : 9218868437227405312 < rg x) : floatBits op .f64 x y = none := by
  rcases hop with rfl | rfl | rfl | rfl
  · show ((Ieee.double.read x).sum (Ieee.double.read y)).map Ieee.double.write = none
    rw [read_nan hx h]; cases Ieee.double.read y <;> rfl
  · show ((Ieee.double.read x).sum (Ieee.double.read y).opposite).map Ieee.double.write = none
    rw [read_nan hx h]; cases Ieee.double.read y <;> rfl
  · show ((Ieee.double.read x).product (Ieee.double.read y)).map Ieee.double.write = none
    rw [read_nan hx h]; cases Ieee.double.read y <;> rfl
  · show ((Ieee.double.read x).quotient (Ieee.double.fractionBits + 2) (Ieee.double.read y)).map Ieee.double.write = none
    rw [read_nan hx h]; cases Ieee.double.read y <;> rfl

theorem fb_right {op : BinOp} {x y : Nat} (hop : op = .add ∨ op = .sub ∨ op = .mul ∨ op = .quo) (hy : y < 18446744073709551616) (h : 9218868437227405312 < rg y) : floatBits op .f64 x y = none := by
  rcases hop with rfl | rfl | rfl | rfl
  · show ((Ieee.double.read x).sum (Ieee.double.read y)).map Ieee.double.write = none
    rw [read_nan hy h]; cases Ieee.double.read x <;> rfl
  · show ((Ieee.double.read x).sum (Ieee.double.read y).opposite).map Ieee.double.write = none
    rw [read_nan hy h]; cases Ieee.double.read x <;> rfl
  · show ((Ieee.double.read x).product (Ieee.double.read y)).map Ieee.double.write = none
    rw [read_nan hy h]; cases Ieee.double.read x <;> rfl
  · show ((Ieee.double.read x).quotient (Ieee.double.fractionBits + 2) (Ieee.double.read y)).map Ieee.double.write = none
    rw [read_nan hy h]; cases Ieee.double.read x <;> rfl

theorem fb_none {op : BinOp} {x y : Nat} (hop : op = .add ∨ op = .sub ∨ op = .mul ∨ op = .quo) (h : floatBits op .f64 x y = none) : fA op x y = QN := by unfold fA; rw [h]

theorem fA_left {op : BinOp} {x y : Nat} (hop : op = .add ∨ op = .sub ∨ op = .mul ∨ op = .quo) (hx : x < 18446744073709551616) : fA op (nfW x) y = fA op x y := by
  rcases nfW_cases x with ⟨h, e⟩ | ⟨h, e⟩
  · rw [e, fb_none hop (fb_left hop (by decide) rg_QN), fb_none hop (fb_left hop hx h)]
  · rw [e]
theorem fA_right {op : BinOp} {x y : Nat} (hop : op = .add ∨ op = .sub ∨ op = .mul ∨ op = .quo) (hy : y < 18446744073709551616) : fA op x (nfW y) = fA op x y := by
  rcases nfW_cases y with ⟨h, e⟩ | ⟨h, e⟩
  · rw [e, fb_none hop (fb_right hop (by decide) rg_QN), fb_none hop (fb_right hop hy h)]
  · rw [e]

/-- Operands that are one, up to a NaN's bits, have answers that are one. -/
theorem fA_same {op : BinOp} {x y x' y' : Nat} (hop : op = .add ∨ op = .sub ∨ op = .mul ∨ op = .quo) (hx : x < 18446744073709551616) (hy : y < 18446744073709551616) (hx' : x' < 18446744073709551616) (hy' : y' < 18446744073709551616) (h1 : nfW x = nfW x') (h2 : nfW y = nfW y') : fA op x y = fA op x' y' := by
  rw [← fA_left hop hx, ← fA_right (x := nfW x) hop hy, h1, h2, fA_right hop hy', fA_left hop hx']

theorem nfW_rk {a b : Nat} (ha : a < 18446744073709551616) (hb : b < 18446744073709551616) : nfW a = nfW b ↔ rk a = rk b := by
  have e1 := mkW_self ha
  have e2 := mkW_self hb
  have l1 := rg_lt a
  have l2 := rg_lt b
  unfold nfW rk
  constructor
  · intro h
    by_cases c1 : 9218868437227405312 < rg a
    · by_cases c2 : 9218868437227405312 < rg b
      · rw [if_pos c1, if_pos c2]
      · rw [if_pos c1, if_neg c2] at h
        have := rg_QN
        rw [h] at this
        exact absurd this c2
    · by_cases c2 : 9218868437227405312 < rg b
      · rw [if_neg c1, if_pos c2] at h
        have := rg_QN
        rw [← h] at this
        exact absurd this c1
      · rw [if_neg c1, if_neg c2] at h
        rw [h]
  · intro h
    by_cases c1 : 9218868437227405312 < rg a
    · by_cases c2 : 9218868437227405312 < rg b
      · rw [if_pos c1, if_pos c2]
      · rw [if_pos c1, if_neg c2] at h
        split at h <;> omega
    · by_cases c2 : 9218868437227405312 < rg b
      · rw [if_neg c1, if_pos c2] at h
        split at h <;> omega
      · rw [if_neg c1, if_neg c2]
        rw [if_neg c1, if_neg c2] at h
        rw [← e1, ← e2]
        cases h1 : sgn a <;> cases h2 : sgn b <;> rw [h1, h2] at h
        · have : rg a = rg b := by simp at h; omega
          rw [this]
        · simp at h; omega
        · simp at h; omega
        · have : rg a = rg b := by simp at h; omega
          rw [this]

theorem write_le (d : Ieee.Datum) (h : d.isNaN = false) : rg (Ieee.double.write d) ≤ 9218868437227405312 := by
  cases d with
  | number s m e =>
    show rg (Ieee.double.nearest s m e) ≤ _
    unfold Ieee.Format.nearest
    split
    · rw [word_mkW, rg_mkW (by decide)]; omega
    · rw [word_mkW]
      have : Ieee.double.infRung = 9218868437227405312 := by decide
      rw [this, rg_mkW (by omega)]
      omega
  | infinity s =>
    show rg (Ieee.double.word s Ieee.double.infRung) ≤ _
    have : Ieee.double.infRung = 9218868437227405312 := by decide
    rw [word_mkW, this, rg_mkW (by decide)]
    omega
  | nan s f => cases h

theorem sum_ok (d e r : Ieee.Datum) (h : d.sum e = some r) : r.isNaN = false := by
  cases d <;> cases e <;> simp only [Ieee.Datum.sum] at h
  all_goals first
    | (cases h; done)
    | (cases h; rfl)
    | (split at h <;> first | (cases h; done) | (cases h; rfl))
theorem product_ok (d e r : Ieee.Datum) (h : d.product e = some r) : r.isNaN = false := by
  cases d <;> cases e <;> simp only [Ieee.Datum.product] at h
  all_goals first
    | (cases h; done)
    | (cases h; rfl)
    | (split at h <;> first | (cases h; done) | (cases h; rfl))
theorem quotient_ok (k : Nat) (d e r : Ieee.Datum) (h : d.quotient k e = some r) : r.isNaN = false := by
  cases d <;> cases e <;> simp only [Ieee.Datum.quotient] at h
  all_goals first
    | (cases h; done)
    | (cases h; rfl)
    | (split at h <;> first | (cases h; done) | (cases h; rfl) | (split at h <;> first | (cases h; done) | (cases h; rfl)))

theorem fb_le {op : BinOp} {x y r : Nat} (hop : op = .add ∨ op = .sub ∨ op = .mul ∨ op = .quo) (h : floatBits op .f64 x y = some r) : rg r ≤ 9218868437227405312 := by
  rcases hop with rfl | rfl | rfl | rfl
  · obtain ⟨d, hd, rfl⟩ := Option.map_eq_some_iff.1 (show ((Ieee.double.read x).sum (Ieee.double.read y)).map Ieee.double.write = some r from h)
    exact write_le _ (sum_ok _ _ _ hd)
  · obtain ⟨d, hd, rfl⟩ := Option.map_eq_some_iff.1 (show ((Ieee.double.read x).sum (Ieee.double.read y).opposite).map Ieee.double.write = some r from h)
    exact write_le _ (sum_ok _ _ _ hd)
  · obtain ⟨d, hd, rfl⟩ := Option.map_eq_some_iff.1 (show ((Ieee.double.read x).product (Ieee.double.read y)).map Ieee.double.write = some r from h)
    exact write_le _ (product_ok _ _ _ hd)
  · obtain ⟨d, hd, rfl⟩ := Option.map_eq_some_iff.1 (show ((Ieee.double.read x).quotient (Ieee.double.fractionBits + 2) (Ieee.double.read y)).map Ieee.double.write = some r from h)
    exact write_le _ (quotient_ok _ _ _ _ hd)

theorem fA_canon {op : BinOp} (hop : op = .add ∨ op = .sub ∨ op = .mul ∨ op = .quo) (x y : Nat) : nfW (fA op x y) = fA op x y := by
  unfold fA
  cases h : floatBits op .f64 x y with
  | some r => exact nfW_id (fb_le hop h)
  | none => exact nfW_idem QN

theorem nan_word (t : Nat) : t % 2 * 9223372036854775808 + 9218868437227405312 + 1 + t / 2 % 4503599627370495 < 18446744073709551616 ∧ 9218868437227405312 < rg (t % 2 * 9223372036854775808 + 9218868437227405312 + 1 + t / 2 % 4503599627370495) := by
  have h1 : t % 2 < 2 := Nat.mod_lt _ (by decide)
  have h2 : t / 2 % 4503599627370495 < 4503599627370495 := Nat.mod_lt _ (by decide)
  generalize t % 2 = a at *
  generalize t / 2 % 4503599627370495 = b at *
  unfold rg
  omega

/-- An operation at whatever floats: the answer up to a NaN's bits; the world draws, or not. -/
theorem arith_at (P : Program) (w : World) (op : BinOp) (hop : op = .add ∨ op = .sub ∨ op = .mul ∨ op = .quo) (t : TypeId) (a b : Nat) :
    ∃ c k, (binOp op t (.float .f64 a) (.float .f64 b)).run P w = .ok (.float .f64 c) (w.drewN k) ∧ nfW c = fA op a b ∧ c < 18446744073709551616 := by
  cases h : floatBits op .f64 a b with
  | some r =>
    have hw := floatBits_wf h
    have hr : r < 18446744073709551616 := by simpa [Lit.wf] using hw
    refine ⟨r, 0, run_float_arith w op t .f64 a b r h, ?_, hr⟩
    unfold fA
    rw [h]
    exact nfW_id (fb_le hop h)
  | none =>
    have hc : ∀ q t', (q = Question.nanBits .f64 a b) → q.cut t' = t' % 2 * 9223372036854775808 + 9218868437227405312 + 1 + t' / 2 % 4503599627370495 := by
      intro q t' hq; subst hq; rfl
    refine ⟨(Question.nanBits .f64 a b).cut (w.tape w.drawn (.nanBits .f64 a b)), 1, ?_, ?_, ?_⟩
    rotate_left
    · have := (nan_word (w.tape w.drawn (.nanBits .f64 a b))).2
      rw [← hc _ _ rfl] at this
      unfold nfW fA
      rw [h, if_pos this]
    · have := (nan_word (w.tape w.drawn (.nanBits .f64 a b))).1
      rw [← hc _ _ rfl] at this
      exact this
    · have hq : (Question.nanBits .f64 a b).forced = false := rfl
      unfold floatBits at h
      rcases hop with rfl | rfl | rfl | rfl
      all_goals
        simp only at h
        simp [binOp, Op.floatArith, h, hq]
        rfl
end Go.Proofs.Ytecbbdbeihiioaa
