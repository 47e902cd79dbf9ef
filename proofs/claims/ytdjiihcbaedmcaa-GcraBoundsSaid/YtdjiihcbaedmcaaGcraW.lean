/- The plain law of GcraBounds. -/
import Derived.Test.YtdjiihcbaedmcaaGcraU
namespace Go.Proofs.Ytdjiihcbaedmcaa
open Go.RowKit

/-- What an ask adds. -/
def bcost (T tau a b tat : Int) (p : Int × Int) : Int := if decG T tau tat p.1 p.2 = true ∧ a ≤ p.1 ∧ p.1 ≤ b then p.2 else 0
/-- What counts in the window: the sum of the costs granted at clocks from a to b. -/
def bsum (T tau a b : Int) : Int → List (Int × Int) → Int
  | _, [] => 0
  | tat, p :: L => bcost T tau a b tat p + bsum T tau a b (decTat T tau tat p.1 p.2) L

theorem bsum_snoc (T tau a b : Int) (L : List (Int × Int)) (p : Int × Int) : ∀ tat, bsum T tau a b tat (L ++ [p]) = bsum T tau a b tat L + bcost T tau a b (runTat T tau tat L) p := by
  induction L with
  | nil => intro tat; simp [bsum, runTat]
  | cons q L ih =>
    intro tat
    simp only [List.cons_append, bsum, ih, runTat, List.foldl_cons]
    omega

/-- A granted cost moves tat: from at least the clock, to at most clock + tau + T. -/
theorem grant_moves {T tau tat now n : Int} (h : limB T tau = true) (hg : decG T tau tat now n = true) (hn : 0 < n) :
    decTat T tau tat now n = max tat now + n * T ∧ max tat now + n * T ≤ now + tau + T := by
  obtain ⟨-, h1, h3⟩ := limB_yes h
  have h4 := tickB_yes h3
  have hle : n ≤ leftI T tau tat now := by simpa [decG] using hg
  refine ⟨by rw [decTat, if_pos ⟨hle, hn⟩], ?_⟩
  unfold leftI leftB at hle
  generalize max tat now = base at *
  by_cases hd : tau < base - now
  · rw [if_pos hd] at hle; omega
  · rw [if_neg hd] at hle
    have hq : n ≤ (tau - (base - now)) / T + 1 := by omega
    have hm : ((tau - (base - now)) / T) * T ≤ tau - (base - now) := Int.ediv_mul_le _ (by omega)
    have hx : (n - 1) * T ≤ ((tau - (base - now)) / T) * T := Int.mul_le_mul_of_nonneg_right (by omega) (by omega)
    rw [Int.sub_mul] at hx
    omega

theorem deny_keeps {T tau tat now n : Int} (hg : decG T tau tat now n = false) : decTat T tau tat now n = tat := by
  have hle : ¬ n ≤ leftI T tau tat now := by simpa [decG] using hg
  rw [decTat, if_neg (fun h => hle h.1)]

theorem tat_up {T tau tat now n : Int} (h : limB T tau = true) : tat ≤ decTat T tau tat now n := by
  obtain ⟨-, h1, -⟩ := limB_yes h
  unfold decTat
  by_cases hc : n ≤ leftI T tau tat now ∧ 0 < n
  · rw [if_pos hc]
    have : 0 < n * T := Int.mul_pos hc.2 (by omega)
    omega
  · rw [if_neg hc]; omega

/-- No cost above what is granted at once. -/
theorem grant_once {T tau tat now n : Int} (h : limB T tau = true) (hg : decG T tau tat now n = true) (hn : 0 ≤ n) : n ≤ (0 + tau) / T + 1 := by
  obtain ⟨-, h1, h3⟩ := limB_yes h
  have h4 := tickB_yes h3
  have hle : n ≤ leftI T tau tat now := by simpa [decG] using hg
  unfold leftI leftB at hle
  have hb : now ≤ max tat now := by omega
  generalize max tat now = base at *
  have h0 : 0 ≤ (0 + tau) / T := Int.ediv_nonneg (by omega) (by omega)
  by_cases hd : tau < base - now
  · rw [if_pos hd] at hle; omega
  · rw [if_neg hd] at hle
    have : (tau - (base - now)) / T ≤ (0 + tau) / T := Int.ediv_le_ediv (by omega) (by omega)
    omega

/-- The invariant of the window's sum. -/
theorem window {T tau a b : Int} (h : limB T tau = true) (_ : a ≤ b) (L : List (Int × Int)) : ∀ tat, (∀ p ∈ L, 0 ≤ p.2) →
    ∀ S : Int, 0 ≤ S → (S = 0 ∨ a + S * T ≤ tat) → S ≤ (b - a + tau) / T + 1 →
    (S + bsum T tau a b tat L = 0 ∨ a + (S + bsum T tau a b tat L) * T ≤ runTat T tau tat L) ∧ 0 ≤ bsum T tau a b tat L ∧ S + bsum T tau a b tat L ≤ (b - a + tau) / T + 1 := by
  obtain ⟨-, h1, h3⟩ := limB_yes h
  have h4 := tickB_yes h3
  induction L with
  | nil => intro tat _ S h0 hi hs; simpa [bsum, runTat] using ⟨hi, hs⟩
  | cons p L ih =>
    intro tat hL S h0 hi hs
    have hp := hL p (List.mem_cons_self ..)
    have hL' : ∀ q ∈ L, 0 ≤ q.2 := fun q hq => hL q (List.mem_cons_of_mem _ hq)
    have hup := @tat_up T tau tat p.1 p.2 h
    have e : runTat T tau tat (p :: L) = runTat T tau (decTat T tau tat p.1 p.2) L := rfl
    rw [e, bsum, bcost]
    by_cases hc : decG T tau tat p.1 p.2 = true ∧ a ≤ p.1 ∧ p.1 ≤ b
    · rw [if_pos hc]
      by_cases hpos : 0 < p.2
      · obtain ⟨hm, hu⟩ := grant_moves h hc.1 hpos
        have hST : a + S * T ≤ max tat p.1 := by
          rcases hi with rfl | hi
          · omega
          · omega
        have hadd : (S + p.2) * T = S * T + p.2 * T := Int.add_mul ..
        have hnew : a + (S + p.2) * T ≤ decTat T tau tat p.1 p.2 := by rw [hm]; omega
        have hmost : S + p.2 ≤ (b - a + tau) / T + 1 := by
          have h5 : (S + p.2 - 1) * T ≤ b - a + tau := by rw [Int.sub_mul]; omega
          have := (Int.le_ediv_iff_mul_le (by omega)).2 h5
          omega
        obtain ⟨g1, g2, g3⟩ := ih (decTat T tau tat p.1 p.2) hL' (S + p.2) (by omega) (Or.inr hnew) hmost
        rw [← Int.add_assoc]
        exact ⟨g1, by omega, g3⟩
      · have hz : p.2 = 0 := by omega
        rw [hz, Int.zero_add]
        rw [hz] at hup
        exact ih _ hL' S h0 (hi.imp id (fun h => by omega)) hs
    · rw [if_neg hc, Int.zero_add]
      exact ih _ hL' S h0 (hi.imp id (fun h => by omega)) hs

/-- At each ask: what is granted in the window fits into what is left. -/
theorem fits {T tau a b tat : Int} (h : limB T tau = true) (hab : a ≤ b) {L : List (Int × Int)} (hL : ∀ p ∈ L, 0 ≤ p.2) {k : Nat} (hk : k < L.length)
    (hg : decG T tau (runTat T tau tat (L.take k)) (L.getD k (0, 0)).1 (L.getD k (0, 0)).2 = true) (ha : a ≤ (L.getD k (0, 0)).1) (hb : (L.getD k (0, 0)).1 ≤ b) :
    (L.getD k (0, 0)).2 ≤ (b - a + tau) / T + 1 - bsum T tau a b tat (L.take k) := by
  obtain ⟨-, h1, h3⟩ := limB_yes h
  have h4 := tickB_yes h3
  have h0 : 0 ≤ (b - a + tau) / T := Int.ediv_nonneg (by omega) (by omega)
  have hw := (window (T := T) (tau := tau) (a := a) (b := b) h hab (L.take (k + 1)) tat (fun p hp => hL p (List.mem_of_mem_take hp)) 0 (by omega) (Or.inl rfl) (by omega)).2.2
  rw [take_snocA hk, bsum_snoc, bcost, if_pos ⟨hg, ha, hb⟩] at hw
  omega
end Go.Proofs.Ytdjiihcbaedmcaa
