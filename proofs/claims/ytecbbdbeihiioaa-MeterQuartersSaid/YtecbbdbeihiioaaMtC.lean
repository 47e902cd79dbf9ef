/- Contracts of meter.sum and spigotref08.lost, finite. -/
import Derived.Test.YtecbbdbeihiioaaMtB
namespace Go.Proofs.Ytecbbdbeihiioaa
open Go.RowKit
set_option linter.unusedVariables false

theorem fin_nf (c : Nat) : rg c < 9218868437227405312 ↔ rg (nfW c) < 9218868437227405312 := by
  rcases nfW_cases c with ⟨h, e⟩ | ⟨h, e⟩
  · rw [e]; have := rg_QN; omega
  · rw [e]
/-- Is the first at least as great in size? -/
def absge (a b : Nat) : Bool := (FloatKind.f64.format.order (rg a) (rg b) == some .gt) || (FloatKind.f64.format.order (rg a) (rg b) == some .eq)
/-- What a sum s of a and b lost. -/
def lossS (a b s : Nat) : Nat := if absge a b = true then fA .add (fA .sub a s) b else fA .add (fA .sub b s) a
def finA (a b : Nat) : Bool := decide (rg (fA .add a b) < 9218868437227405312)
def lossA (a b : Nat) : Nat := if finA a b = true then lossS a b (fA .add a b) else 0

def SumRes (w : World) (a b : Nat) (F : Bool) (e : Ending) (w' : World) : Prop := ∃ s l n, e = .returned (.tuple #[.float .f64 s, .float .f64 l, .bool F]) ∧ nfW s = fA .add a b ∧ nfW l = lossA a b ∧ s < 18446744073709551616 ∧ l < 18446744073709551616 ∧ w' = w.drewN n
def LostRes (w : World) (a b s : Nat) (e : Ending) (w' : World) : Prop := ∃ l n, e = .returned (.float .f64 l) ∧ nfW l = lossS a b s ∧ l < 18446744073709551616 ∧ w' = w.drewN n

theorem loss_yes {a b s c1 c2 : Nat} (h : absge a b = true) (hb : c1 < 18446744073709551616) (h1 : nfW c1 = fA .sub a s) (h2 : nfW c2 = fA .add c1 b) : nfW c2 = lossS a b s := by
  unfold lossS; rw [if_pos h, h2, ← fA_left op_add hb, h1]
theorem loss_no {a b s c1 c2 : Nat} (h : absge a b = false) (hb : c1 < 18446744073709551616) (h1 : nfW c1 = fA .sub b s) (h2 : nfW c2 = fA .add c1 a) : nfW c2 = lossS a b s := by
  unfold lossS; rw [if_neg (by rw [h]; decide), h2, ← fA_left op_add hb, h1]
theorem absge_cases (a b : Nat) : ((FloatKind.f64.format.order (rg a) (rg b) == some .gt) = true ∧ absge a b = true) ∨ ((FloatKind.f64.format.order (rg a) (rg b) == some .gt) = false ∧ (FloatKind.f64.format.order (rg a) (rg b) == some .eq) = true ∧ absge a b = true) ∨ ((FloatKind.f64.format.order (rg a) (rg b) == some .gt) = false ∧ (FloatKind.f64.format.order (rg a) (rg b) == some .eq) = false ∧ absge a b = false) := by
  unfold absge
  cases (FloatKind.f64.format.order (rg a) (rg b) == some .gt) <;> cases (FloatKind.f64.format.order (rg a) (rg b) == some .eq) <;> simp

theorem finite_ref (b : Nat) (w : World) :
    Calls Try.prog 52 #[.float .f64 b] w fun e w' => e = .returned (.bool (decide (rg b < 9218868437227405312))) ∧ w = w' := by
  have K := Lib.hid (fun v => kind_ref b v)
  have h4 : decide ((kindN (rg b) : Int) < 3) = decide (rg b < 9218868437227405312) := by
    have := kind_cases (rg b)
    by_cases h : rg b < 9218868437227405312
    · rw [decide_eq_true h, decide_eq_true (by omega)]
    · rw [decide_eq_false h, decide_eq_false (by omega)]
  generalize decide (rg b < 9218868437227405312) = f at *
  generalize kindN (rg b) = k at *
  go_enter Try.func52, Try.ntmps52
  go_wp2_with (go_at_call 38; (with_reducible refine (K.out _).mono ?_); rintro e w' ⟨rfl, rfl⟩)
  go_ret
  exact ⟨rfl, rfl⟩

set_option maxHeartbeats 4000000 in
theorem lost_ref (a b s : Nat) (w : World) (ha : a < 18446744073709551616) (hb : b < 18446744073709551616) :
    Calls Try.prog 53 #[.float .f64 a, .float .f64 b, .float .f64 s] w (LostRes w a b s) := by
  have Ka := Lib.hid (fun v => abs_any a v ha)
  have Kb := Lib.hid (fun v => abs_any b v hb)
  have HA := Lib.hid ha; have HB := Lib.hid hb
  clear ha hb
  have Hy := Lib.hid (fun c1 c2 => @loss_yes a b s c1 c2)
  have Hn := Lib.hid (fun c1 c2 => @loss_no a b s c1 c2)
  rcases absge_cases a b with ⟨h1, h⟩ | ⟨h1, h2, h⟩ | ⟨h1, h2, h⟩
  all_goals
    have H := Lib.hid h
    clear h
    generalize rg a = ra at *
    generalize rg b = rb at *
    go_enter Try.func53, Try.ntmps53
    go_wp2_with (first | (go_at_call 22; (with_reducible refine (Ka.out _).mono ?_); rintro e w' ⟨rfl, rfl⟩) | (go_at_call 22; (with_reducible refine (Kb.out _).mono ?_); rintro e w' ⟨rfl, rfl⟩))
    refine arith_upon op_sub ?_
    rintro c1 n1 hc1 hb1
    have Hc1 := Lib.hid hc1; have Hb1 := Lib.hid hb1; clear hc1 hb1
    go_wp2_with fail
    refine arith_upon op_add ?_
    rintro c2 n2 hc2 hb2
    have Hc2 := Lib.hid hc2; have Hb2 := Lib.hid hb2; clear hc2 hb2
    go_wp2
    go_ret
    first
      | exact ⟨_, _, rfl, Hy.out _ _ H.out Hb1.out Hc1.out Hc2.out, Hb2.out, rfl⟩
      | exact ⟨_, _, rfl, Hn.out _ _ H.out Hb1.out Hc1.out Hc2.out, Hb2.out, rfl⟩

theorem sum_end {a b s l : Nat} (hs : nfW s = fA .add a b) (hf : rg s < 9218868437227405312) (hl : nfW l = lossS a b s) : nfW l = lossA a b ∧ finA a b = true := by
  have h1 := (fin_nf s).1 hf
  rw [hs] at h1
  have h2 : s = fA .add a b := by rw [← hs]; exact (nfW_id (by omega)).symm
  have h3 : finA a b = true := decide_eq_true h1
  unfold lossA
  rw [if_pos h3, hl, ← h2]
  exact ⟨rfl, h3⟩
theorem sum_big {a b s : Nat} (hs : nfW s = fA .add a b) (hf : ¬ rg s < 9218868437227405312) : nfW 0 = lossA a b ∧ finA a b = false := by
  have h1 : ¬ rg (fA .add a b) < 9218868437227405312 := by rw [← hs]; exact fun h => hf ((fin_nf s).2 h)
  have h3 : finA a b = false := decide_eq_false h1
  unfold lossA
  rw [if_neg (by rw [h3]; decide)]
  exact ⟨by decide +kernel, h3⟩

set_option maxHeartbeats 8000000 in
theorem sum_any (a b : Nat) (w : World) (ha : a < 18446744073709551616) (hb : b < 18446744073709551616) :
    Calls Try.prog 49 #[.float .f64 a, .float .f64 b] w (SumRes w a b (finA a b)) := by
  have Ka := Lib.hid (fun v => abs_any a v ha)
  have Kb := Lib.hid (fun v => abs_any b v hb)
  have Kf := Lib.hid (fun s v (h : s < 18446744073709551616) => isinf0_any s v h)
  have Kn := Lib.hid (fun s v (h : s < 18446744073709551616) => isnan_any s v h)
  have HA := Lib.hid ha; have HB := Lib.hid hb
  clear ha hb
  have Hy := Lib.hid (fun s c1 c2 => @loss_yes a b s c1 c2)
  have Hn := Lib.hid (fun s c1 c2 => @loss_no a b s c1 c2)
  have hcs := absge_cases a b
  have He := Lib.hid (fun s l => @sum_end a b s l)
  have Hg := Lib.hid (fun s => @sum_big a b s)
  generalize finA a b = F at *
  go_enter Try.func49, Try.ntmps49
  go_wp2_with fail
  refine arith_upon op_add ?_
  rintro c n hc hb
  have Hc := Lib.hid hc; have Hb := Lib.hid hb; clear hc hb
  by_cases hf : rg c < 9218868437227405312
  · have Hf := Lib.hid hf
    have d1 : decide (rg c = 9218868437227405312) = false := decide_eq_false (by omega)
    have d2 : decide (9218868437227405312 < rg c) = false := decide_eq_false (by omega)
    clear hf
    generalize hr : rg c = rc at *
    rcases hcs with ⟨h1, h⟩ | ⟨h1, h2, h⟩ | ⟨h1, h2, h⟩
    all_goals
      have H := Lib.hid h
      have Hr := Lib.hid hr
      clear h hr
      generalize rg a = ra at *
      generalize rg b = rb at *
      go_wp2_with (first | (go_at_call 64; (refine (Kf.out _ _ Hb.out).mono ?_); rintro e w' ⟨rfl, rfl⟩; rw [Hr.out]) | (go_at_call 36; (refine (Kn.out _ _ Hb.out).mono ?_); rintro e w' ⟨rfl, rfl⟩; rw [Hr.out]) | (go_at_call 22; (with_reducible refine (Ka.out _).mono ?_); rintro e w' ⟨rfl, rfl⟩) | (go_at_call 22; (with_reducible refine (Kb.out _).mono ?_); rintro e w' ⟨rfl, rfl⟩))
      refine arith_upon op_sub ?_
      rintro c1 n1 hc1 hb1
      have Hc1 := Lib.hid hc1; have Hb1 := Lib.hid hb1; clear hc1 hb1
      go_wp2_with fail
      refine arith_upon op_add ?_
      rintro c2 n2 hc2 hb2
      have hl : nfW c2 = lossS a b c := by
        first
          | exact Hy.out c c1 c2 H.out Hb1.out Hc1.out hc2
          | exact Hn.out c c1 c2 H.out Hb1.out Hc1.out hc2
      obtain ⟨e1, rfl⟩ := He.out c c2 Hc.out (by rw [Hr.out]; exact Hf.out) hl
      have Hl := Lib.hid e1; have Hb2 := Lib.hid hb2
      clear hc2 hb2 hl e1
      go_wp2
      go_ret3
      exact ⟨_, _, _, rfl, Hc.out, Hl.out, Hb.out, Hb2.out, rfl⟩
  · obtain ⟨e1, rfl⟩ := Hg.out c Hc.out hf
    have Hl := Lib.hid e1
    have hcs : (rg c = 9218868437227405312 ∧ decide (rg c = 9218868437227405312) = true) ∨ (decide (rg c = 9218868437227405312) = false ∧ decide (9218868437227405312 < rg c) = true) := by
      by_cases h : rg c = 9218868437227405312
      · exact Or.inl ⟨h, decide_eq_true h⟩
      · exact Or.inr ⟨decide_eq_false h, decide_eq_true (by omega)⟩
    clear hf e1
    generalize hr : rg c = rc at *
    have Hr := Lib.hid hr
    clear hr
    rcases hcs with ⟨h0, h1⟩ | ⟨h1, h2⟩
    all_goals
      first | clear h0 | skip
      go_wp2_with (first | (go_at_call 64; (refine (Kf.out _ _ Hb.out).mono ?_); rintro e w' ⟨rfl, rfl⟩; rw [Hr.out]) | (go_at_call 36; (refine (Kn.out _ _ Hb.out).mono ?_); rintro e w' ⟨rfl, rfl⟩; rw [Hr.out]))
      go_ret3
      exact ⟨_, _, _, rfl, Hc.out, Hl.out, Hb.out, by decide, rfl⟩
end Go.Proofs.Ytecbbdbeihiioaa
