/- Plain laws: sorted lists that are permutations of one another. No program's run in this text. -/
import Derived.Test.YtecbbdbeihiioaaMtK
namespace Go.Proofs.Ytecbbdbeihiioaa
open Go.RowKit
set_option linter.unusedVariables false

theorem countP_all {p : Nat → Bool} : ∀ {l : List Nat}, (∀ x ∈ l, p x = true) → l.countP p = l.length
  | [], _ => rfl
  | x :: l, h => by rw [List.countP_cons_of_pos (h x (by simp)), countP_all (fun y hy => h y (by simp [hy]))]; rfl
theorem gd_mem {l : List Nat} {i : Nat} (h : i < l.length) : l.getD i 0 ∈ l := by
  rw [List.getD_eq_getElem?_getD, List.getElem?_eq_getElem h]; exact List.getElem_mem h
theorem mem_getD {l : List Nat} {x : Nat} (h : x ∈ l) : ∃ i, i < l.length ∧ l.getD i 0 = x := by
  obtain ⟨i, hi, rfl⟩ := List.getElem_of_mem h
  exact ⟨i, hi, by rw [List.getD_eq_getElem?_getD, List.getElem?_eq_getElem hi]; rfl⟩
theorem getD_take {l : List Nat} {n i : Nat} (h : i < n) : (l.take n).getD i 0 = l.getD i 0 := by
  rw [List.getD_eq_getElem?_getD, List.getElem?_take_of_lt h, List.getD_eq_getElem?_getD]
theorem getD_drop {l : List Nat} {n i : Nat} : (l.drop n).getD i 0 = l.getD (n + i) 0 := by
  rw [List.getD_eq_getElem?_getD, List.getElem?_drop, List.getD_eq_getElem?_getD]

theorem sorted_le {L : List Nat} (h : Sorted L) {i j : Nat} (hij : i ≤ j) (hj : j < L.length) : rk (L.getD i 0) ≤ rk (L.getD j 0) := by
  rcases Nat.lt_or_eq_of_le hij with h1 | rfl
  · exact h i j h1 hj
  · exact Int.le_refl _

theorem count_low {L : List Nat} (h : Sorted L) {i : Nat} (hi : i < L.length) {t : Int} (ht : rk (L.getD i 0) < t) : i + 1 ≤ L.countP (fun x => decide (rk x < t)) := by
  have e : L.countP (fun x => decide (rk x < t)) = (L.take (i + 1)).countP (fun x => decide (rk x < t)) + (L.drop (i + 1)).countP (fun x => decide (rk x < t)) := by
    rw [← List.countP_append, List.take_append_drop]
  have h1 : (L.take (i + 1)).countP (fun x => decide (rk x < t)) = i + 1 := by
    rw [countP_all (fun x hx => ?_)]
    · simp; omega
    · obtain ⟨j, hj, rfl⟩ := mem_getD hx
      have hj' : j < i + 1 := by simp at hj; omega
      rw [getD_take hj']
      have := sorted_le h (show j ≤ i by omega) hi
      exact decide_eq_true (by omega)
  omega
theorem count_high {L : List Nat} (h : Sorted L) {i : Nat} (hi : i < L.length) : L.countP (fun x => decide (rk x < rk (L.getD i 0))) ≤ i := by
  have e : L.countP (fun x => decide (rk x < rk (L.getD i 0))) = (L.take i).countP (fun x => decide (rk x < rk (L.getD i 0))) + (L.drop i).countP (fun x => decide (rk x < rk (L.getD i 0))) := by
    rw [← List.countP_append, List.take_append_drop]
  have h1 : (L.drop i).countP (fun x => decide (rk x < rk (L.getD i 0))) = 0 := by
    rw [List.countP_eq_zero]
    intro x hx
    obtain ⟨j, hj, rfl⟩ := mem_getD hx
    have hj' : i + j < L.length := by simp at hj; omega
    rw [getD_drop]
    have := sorted_le h (show i ≤ i + j by omega) hj'
    intro hh
    have := of_decide_eq_true hh
    omega
  have h2 : (L.take i).countP (fun x => decide (rk x < rk (L.getD i 0))) ≤ i := Nat.le_trans List.countP_le_length (List.length_take_le _ _)
  omega

/-- Two sorted lists of the same numbers rank alike at every place. -/
theorem sorted_same {A B : List Nat} (hp : A.Perm B) (ha : Sorted A) (hb : Sorted B) {i : Nat} (hi : i < A.length) : rk (A.getD i 0) = rk (B.getD i 0) := by
  have hl := hp.length_eq
  have hc := fun p => hp.countP_eq p
  rcases Int.lt_trichotomy (rk (A.getD i 0)) (rk (B.getD i 0)) with h | h | h
  · have h1 := count_low ha hi h
    have h2 := count_high hb (i := i) (by omega)
    rw [hc] at h1
    omega
  · exact h
  · have h1 := count_low hb (i := i) (by omega) h
    have h2 := count_high ha hi
    rw [hc] at h2
    omega

/-- A quantile hangs on the ranks alone. -/
theorem quV_same {A B : List Nat} {f i : Nat} (hl : A.length = B.length) (ha : ∀ x ∈ A, x < 18446744073709551616) (hb : ∀ x ∈ B, x < 18446744073709551616) (hf : f < 18446744073709551616) (h0 : rk (A.getD i 0) = rk (B.getD i 0)) (h1 : i ≠ A.length - 1 → rk (A.getD (i + 1) 0) = rk (B.getD (i + 1) 0)) : quV A f i = quV B f i := by
  have a0 := getD_lt ha i
  have b0 := getD_lt hb i
  have a1 := getD_lt ha (i + 1)
  have b1 := getD_lt hb (i + 1)
  have e0 := (nfW_rk a0 b0).2 h0
  unfold quV
  rw [← hl]
  by_cases c1 : (FloatKind.f64.format.order f 0 == some .eq) = true
  · rw [if_pos (Or.inl c1), if_pos (Or.inl c1), e0]
  · by_cases c2 : i = A.length - 1
    · rw [if_pos (Or.inr (Or.inl c2)), if_pos (Or.inr (Or.inl c2)), e0]
    · have h1' := h1 c2
      have e1 := (nfW_rk a1 b1).2 h1'
      by_cases c3 : rk (A.getD i 0) = rk (A.getD (i + 1) 0)
      · rw [if_pos (Or.inr (Or.inr c3)), if_pos (Or.inr (Or.inr (by rw [← h0, ← h1']; exact c3))), e0]
      · rw [if_neg (by rintro (h | h | h); exact c1 h; exact c2 h; exact c3 h), if_neg (by rintro (h | h | h); exact c1 h; exact c2 h; exact c3 (by rw [h0, h1']; exact h))]
        have hs : fA .sub (A.getD (i + 1) 0) (A.getD i 0) = fA .sub (B.getD (i + 1) 0) (B.getD i 0) := fA_same op_sub a1 a0 b1 b0 e1 e0
        rw [hs]
        exact fA_same op_add a0 (fA_lt _ _) b0 (fA_lt _ _) e0 rfl

/-- One step of the insertion: what stands ahead of place i is in order, and so is what stands behind; place i is no greater than what stands behind. -/
def Ins (R : List Nat) (i : Nat) : Prop := (∀ a b, a < b → b < R.length → a ≠ i → b ≠ i → rk (R.getD a 0) ≤ rk (R.getD b 0)) ∧ (∀ b, i < b → b < R.length → rk (R.getD i 0) ≤ rk (R.getD b 0))
def swapL (R : List Nat) (i : Nat) : List Nat := (R.set (i - 1) (R.getD i 0)).set i (R.getD (i - 1) 0)
theorem swapL_len (R : List Nat) (i : Nat) : (swapL R i).length = R.length := by simp [swapL]
theorem swapL_perm {R : List Nat} {i : Nat} (h : i < R.length) : (swapL R i).Perm R := by
  unfold swapL
  have e1 : R.getD i 0 = R[i] := by rw [List.getD_eq_getElem?_getD, List.getElem?_eq_getElem h]; rfl
  have e2 : R.getD (i - 1) 0 = R[i - 1] := by rw [List.getD_eq_getElem?_getD, List.getElem?_eq_getElem (by omega)]; rfl
  rw [e1, e2]
  exact List.set_set_perm (by omega) h
theorem swapL_get {R : List Nat} {i j : Nat} (h : i < R.length) (h0 : 0 < i) (hj : j < R.length) : (swapL R i).getD j 0 = if j = i then R.getD (i - 1) 0 else if j = i - 1 then R.getD i 0 else R.getD j 0 := by
  unfold swapL
  rw [List.getD_eq_getElem?_getD]
  by_cases h1 : j = i
  · subst h1
    rw [if_pos rfl, List.getElem?_set_self (by simp; omega)]
    rfl
  · rw [if_neg h1, List.getElem?_set_ne (by omega)]
    by_cases h2 : j = i - 1
    · subst h2
      rw [if_pos rfl, List.getElem?_set_self (by omega)]
      rfl
    · rw [if_neg h2, List.getElem?_set_ne (by omega), List.getD_eq_getElem?_getD]
theorem ins_start {R : List Nat} (h : Sorted R) (x : Nat) : Ins (R ++ [x]) R.length := by
  refine ⟨fun a b hab hb ha hb' => ?_, fun b hb hb' => ?_⟩
  · simp at hb
    have hb2 : b < R.length := by omega
    rw [List.getD_eq_getElem?_getD, List.getD_eq_getElem?_getD, List.getElem?_append_left (by omega), List.getElem?_append_left hb2, ← List.getD_eq_getElem?_getD, ← List.getD_eq_getElem?_getD]
    exact h a b hab hb2
  · simp at hb'; omega
theorem ins_step {R : List Nat} {i : Nat} (h : Ins R i) (h0 : 0 < i) (hi : i < R.length) (hc : rk (R.getD i 0) < rk (R.getD (i - 1) 0)) : Ins (swapL R i) (i - 1) := by
  obtain ⟨h1, h2⟩ := h
  have hl := swapL_len R i
  refine ⟨fun a b hab hb ha hb' => ?_, fun b hb hb' => ?_⟩
  · rw [hl] at hb
    rw [swapL_get hi h0 (by omega), swapL_get hi h0 hb]
    by_cases ca : a = i
    · rw [if_pos ca, if_neg (by omega), if_neg hb']
      exact h1 (i - 1) b (by omega) hb (by omega) (by omega)
    · rw [if_neg ca, if_neg ha]
      by_cases cb : b = i
      · rw [if_pos cb]
        exact h1 a (i - 1) (by omega) (by omega) ca (by omega)
      · rw [if_neg cb, if_neg hb']
        exact h1 a b hab hb ca cb
  · rw [hl] at hb'
    rw [swapL_get hi h0 (by omega), swapL_get hi h0 hb', if_neg (by omega), if_pos rfl]
    by_cases cb : b = i
    · rw [if_pos cb]; omega
    · rw [if_neg cb, if_neg (by omega)]
      exact h2 b (by omega) hb'
theorem ins_end {R : List Nat} {i : Nat} (h : Ins R i) (hi : i < R.length) (hc : i = 0 ∨ rk (R.getD (i - 1) 0) ≤ rk (R.getD i 0)) : Sorted R := by
  obtain ⟨h1, h2⟩ := h
  intro a b hab hb
  by_cases ca : a = i
  · subst ca; exact h2 b hab hb
  · by_cases cb : b = i
    · subst cb
      rcases hc with h | h
      · omega
      · by_cases e : a = b - 1
        · rw [e]; exact h
        · exact Int.le_trans (h1 a (b - 1) (by omega) (by omega) ca (by omega)) h
    · exact h1 a b hab hb ca cb
end Go.Proofs.Ytecbbdbeihiioaa
