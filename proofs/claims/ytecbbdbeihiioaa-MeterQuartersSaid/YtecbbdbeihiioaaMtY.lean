/- Two rows of floats that grow beside each other; the plain law of NaNs in a list. -/
import Derived.Test.YtecbbdbeihiioaaMtV
namespace Go.Proofs.Ytecbbdbeihiioaa
open Go.RowKit
set_option linter.unusedVariables false

/-- Two rows in different blocks. -/
def Sep (va vb : Value) : Prop := ∀ g, va.ownBlock = some g → vb.ownBlock ≠ some g
theorem Sep.symm {va vb : Value} (h : Sep va vb) : Sep vb va := fun g h1 h2 => h g h2 h1
theorem sep_nil (v : Value) : Sep (.slice none 0 0) v := fun g h => by cases h
theorem sep_nil' (v : Value) : Sep v (.slice none 0 0) := (sep_nil v).symm

theorem own_stay {wr w2 : World} {base n : Nat} {va vb : Value} {o : Obj} {t : TypeId} {size : Nat} {xs : List Value} (hB : wr.ownsRow base t size vb n xs) (hs : Sep va vb) (hg : (wr.alloc o).grownBy w2 va.ownBlock) : w2.ownsRow base t size vb n xs := by
  refine (hB.alloc o).kept hg ?_
  cases h : vb.ownBlock with
  | none => exact Or.inl rfl
  | some g =>
    refine Or.inr fun h2 => ?_
    exact hs g h2.symm h
theorem sep_stay {wr : World} {base n g m cap : Nat} {va vb : Value} {t : TypeId} {size : Nat} {xs : List Value} (hB : wr.ownsRow base t size vb n xs) (hs : Sep va vb) (hg : va.ownBlock = some g ∨ g = wr.heap.size + 1) : Sep (.slice (some ⟨g, 0, none⟩) m cap) vb := by
  intro k hk hv
  have hk' : g = k := by simpa [Value.ownBlock] using hk
  subst hk'
  rcases hg with h | h
  · exact hs g h hv
  · have := (hB.lt g hv).2
    omega

/-- The NaN of math.NaN. -/
def NANW : Nat := 9221120237041090561
def setBad (m : Mt) (b : Int) : Mt := { m with Bad := b }
theorem addM_nan (m : Mt) : addM m NANW = setBad m (wrap64 (m.Bad + 1)) := by
  unfold addM setBad
  rw [if_pos (by decide +kernel)]
theorem addM_bad (m : Mt) (x : Nat) : (addM m x).Bad = if 9218868437227405312 < rg x then wrap64 (m.Bad + 1) else m.Bad := by
  unfold addM
  split <;> rfl
theorem addM_setBad (m : Mt) (b : Int) (x : Nat) : addM (setBad m b) x = setBad (addM m x) (if 9218868437227405312 < rg x then wrap64 (b + 1) else b) := by
  unfold addM setBad mtMe
  split <;> rfl

/-- How many NaNs stand ahead of number i. -/
def nansAt (P : List Int) (i : Nat) : Nat := if i < P.length then (P.getD i 0 % 3).toNat else 0
theorem nansAt_le (P : List Int) (i : Nat) : nansAt P i ≤ 2 := by unfold nansAt; split <;> omega
def moreL (L : List Nat) (P : List Int) : Nat → List Nat
  | 0 => []
  | k + 1 => moreL L P k ++ List.replicate (nansAt P k) NANW ++ [L.getD k 0]
theorem moreL_len (L : List Nat) (P : List Int) : ∀ k, k ≤ (moreL L P k).length ∧ (moreL L P k).length ≤ 3 * k
  | 0 => by simp [moreL]
  | k + 1 => by
    have := moreL_len L P k
    have := nansAt_le P k
    simp [moreL]
    omega
theorem moreL_words {L : List Nat} (h : ∀ x ∈ L, x < 18446744073709551616) (P : List Int) : ∀ k, ∀ x ∈ moreL L P k, x < 18446744073709551616
  | 0 => by simp [moreL]
  | k + 1 => by
    intro x hx
    simp only [moreL, List.mem_append, List.mem_replicate, List.mem_singleton] at hx
    rcases hx with (hx | ⟨-, rfl⟩) | rfl
    · exact moreL_words h P k x hx
    · decide
    · exact getD_lt h k

theorem wrap_small {x : Int} (h0 : 0 ≤ x) (h1 : x < 4611686018427387904) : wrap64 x = x := by unfold wrap64; omega

theorem fold_reps (m : Mt) (b : Int) : ∀ r : Nat, 0 ≤ b → b + r < 4611686018427387904 → (List.replicate r NANW).foldl addM (setBad m b) = setBad m (b + r)
  | 0, _, _ => by simp
  | r + 1, h0, h1 => by
    rw [List.replicate_succ, List.foldl_cons, addM_nan]
    have e : setBad (setBad m b) (wrap64 ((setBad m b).Bad + 1)) = setBad m (b + 1) := by
      show setBad m (wrap64 (b + 1)) = _
      rw [wrap_small (by omega) (by omega)]
    rw [e, fold_reps m (b + 1) r (by omega) (by push_cast at h1; omega)]
    congr 1
    push_cast
    omega

/-- NaNs are counted, and change nothing else. -/
theorem more_fold (L : List Nat) (P : List Int) : ∀ k, k ≤ L.length → k ≤ 300 → 0 ≤ (foldM (L.take k)).Bad ∧ (foldM (L.take k)).Bad ≤ k ∧ foldM (moreL L P k) = setBad (foldM (L.take k)) ((foldM (L.take k)).Bad + ((moreL L P k).length - k))
  | 0, _, _ => by
    refine ⟨by simp [foldM, mt0], by simp [foldM, mt0], ?_⟩
    simp [moreL, foldM, setBad]
  | k + 1, hk, h3 => by
    obtain ⟨b0, b1, ih⟩ := more_fold L P k (by omega) (by omega)
    have hs := foldM_take (L := L) (k := k) (by omega)
    have hl := moreL_len L P k
    have hn := nansAt_le P k
    rw [hs]
    have hb := addM_bad (foldM (L.take k)) (L.getD k 0)
    have hlen : ((moreL L P (k + 1)).length : Int) = (moreL L P k).length + nansAt P k + 1 := by simp [moreL]; omega
    have e1 : foldM (moreL L P (k + 1)) = addM (setBad (foldM (L.take k)) ((foldM (L.take k)).Bad + ((moreL L P k).length - k) + nansAt P k)) (L.getD k 0) := by
      unfold foldM at ih ⊢
      rw [moreL, List.foldl_append, List.foldl_append, ih, fold_reps _ _ _ (by unfold foldM at b0; omega) (by unfold foldM at b1; omega)]
      rfl
    rw [e1, addM_setBad, hb]
    generalize foldM (L.take k) = M at *
    by_cases hx : 9218868437227405312 < rg (L.getD k 0)
    · rw [if_pos hx] at hb ⊢
      rw [if_pos hx]
      have w1 : wrap64 (M.Bad + 1) = M.Bad + 1 := wrap_small (by omega) (by omega)
      have w2 : wrap64 (M.Bad + ((moreL L P k).length - k) + nansAt P k + 1) = M.Bad + ((moreL L P k).length - k) + nansAt P k + 1 := wrap_small (by omega) (by omega)
      rw [w1, w2, hlen]
      refine ⟨by omega, by push_cast; omega, ?_⟩
      congr 1
      push_cast
      omega
    · rw [if_neg hx] at hb ⊢
      rw [if_neg hx, hlen]
      refine ⟨by omega, by push_cast; omega, ?_⟩
      congr 1
      push_cast
      omega
end Go.Proofs.Ytecbbdbeihiioaa
