/- GcraBounds: what its last loop needs; the opened argument with the numbers' bounds. -/
import Derived.Test.YtdjiihcbaedmcaaGcraX
namespace Go.Proofs.Ytdjiihcbaedmcaa
open Go.ChangeShapes Go.WideShapes Go.Deep Go.RowKit Go.Joins

theorem runC_at (T tau : Int) (L : List (Int × Int)) : ∀ (tat : Int) (k : Nat), k < L.length →
    (runC T tau tat L)[k * 4]? = some (.bool (decG T tau (runTat T tau tat (L.take k)) (L.getD k (0, 0)).1 (L.getD k (0, 0)).2)) ∧
    (runC T tau tat L)[k * 4 + 1]? = some (.int .i64 (decTat T tau (runTat T tau tat (L.take k)) (L.getD k (0, 0)).1 (L.getD k (0, 0)).2)) := by
  induction L with
  | nil => intro _ k hk; simp at hk
  | cons p L ih =>
    intro tat k hk
    cases k with
    | zero => exact ⟨by simp [runC, ansC, runTat], by simp [runC, ansC, runTat]⟩
    | succ k =>
      obtain ⟨h0, h1⟩ := ih (decTat T tau tat p.1 p.2) k (by simpa using hk)
      refine ⟨?_, ?_⟩
      · rw [runC, show (k + 1) * 4 = k * 4 + 4 by omega, List.getElem?_append_right (by simp [ansC])]; simpa [ansC, runTat] using h0
      · rw [runC, show (k + 1) * 4 + 1 = k * 4 + 1 + 4 by omega, List.getElem?_append_right (by simp [ansC])]; simpa [ansC, runTat] using h1

theorem runTat_next (T tau tat : Int) {L : List (Int × Int)} {k : Nat} (h : k < L.length) : runTat T tau tat (L.take (k + 1)) = decTat T tau (runTat T tau tat (L.take k)) (L.getD k (0, 0)).1 (L.getD k (0, 0)).2 := by
  rw [take_snocA h, runTat_snoc]

theorem bsum_next (T tau a b tat : Int) {L : List (Int × Int)} {k : Nat} (h : k < L.length) : bsum T tau a b tat (L.take (k + 1)) = bsum T tau a b tat (L.take k) + bcost T tau a b (runTat T tau tat (L.take k)) (L.getD k (0, 0)) := by
  rw [take_snocA h, bsum_snoc]

theorem ok_pos {L : List (Int × Int)} (h : L.all okA = true) : ∀ p ∈ L, 0 ≤ p.2 := by
  intro p hp
  rw [List.all_eq_true] at h
  have := h p hp
  simp only [okA, Bool.and_eq_true] at this
  exact (tickB_yes this.2).1

/-- The sum in the window lies between 0 and the most. -/
theorem bsum_in {T tau a b tat : Int} (h : limB T tau = true) (hab : a ≤ b) {L : List (Int × Int)} (hL : ∀ p ∈ L, 0 ≤ p.2) (k : Nat) : 0 ≤ bsum T tau a b tat (L.take k) ∧ bsum T tau a b tat (L.take k) ≤ (b - a + tau) / T + 1 := by
  obtain ⟨-, h1, h3⟩ := limB_yes h
  have h4 := tickB_yes h3
  have h0 : 0 ≤ (b - a + tau) / T := Int.ediv_nonneg (by omega) (by omega)
  have hw := (window (T := T) (tau := tau) (a := a) (b := b) h hab (L.take k) tat (fun p hp => hL p (List.mem_of_mem_take hp)) 0 (by omega) (Or.inl rfl) (by omega)).2
  omega

theorem ask_open_big {H : Type} {enc : TypeId × Value → H} {W : World} {d : DataW H} {p : List MemPlace} {sa : Option Addr} {sl sc : Nat} (h : DataW.Trod enc Try.prog W 0 (fun _ => true) true 67 (.slice sa sl sc) d p)
    (hsz : ∀ elems spare, d = .slice elems spare → (elems.length + spare.length) * 16 ≤ 140737488351232) :
    ∃ L, AskAt W (.slice sa sl sc) L ∧ ((L.length + 1) * 16 ≤ 140737488355328 ∧ ∀ i, (L.getD i (0, 0)).1 ≤ 9223372036854775807 ∧ (L.getD i (0, 0)).2 ≤ 9223372036854775807) := by
  obtain ⟨fuel, hf⟩ := h
  rcases open_slice_fields Try.underlying67 Try.underlying79 (by kernel_rfl) (by kernel_rfl) hf with ⟨hcs, hx⟩ | ⟨a, len, cap, m, D, Pl, hcs, _, hl, hm, hmm, hx, hcell⟩
  · simp [Value.cells] at hcs
    obtain ⟨rfl, rfl, rfl⟩ := hcs
    exact ⟨[], ⟨none, 0, rfl, Nat.le_refl _, by decide, fun h => by cases h⟩, by decide, fun i => by simp⟩
  · simp [Value.cells] at hcs
    obtain ⟨rfl, rfl, rfl⟩ := hcs
    simp only [Prod.mk.injEq] at hx
    have hz := hsz _ _ hx.1
    simp at hz
    simp at hmm
    have hall : ∀ i, i < sl → ∃ x y, (W.cell? (a.add (i * 2)) = some (.int .i64 x) ∧ W.cell? (a.add (i * 2 + 1)) = some (.int .i64 y)) ∧ x ≤ 9223372036854775807 ∧ y ≤ 9223372036854775807 := by
      intro i hi
      obtain ⟨ys, n, -, -, -, hf'⟩ := hcell i (by omega)
      obtain ⟨v0, y0, hc0, -, ht0⟩ := hf' 0 _ rfl
      obtain ⟨v1, y1, hc1, -, ht1⟩ := hf' 1 _ rfl
      obtain ⟨x, f0, rfl, w0⟩ := DataW.trod_int Try.underlying2 ht0
      obtain ⟨y, f1, rfl, w1⟩ := DataW.trod_int Try.underlying2 ht1
      simp at f0 f1
      subst f0 f1
      exact ⟨x, y, ⟨hc0, hc1⟩, (bounds_i64 w0).2, (bounds_i64 w1).2⟩
    obtain ⟨L, hL, hLc⟩ := ask_list (P := fun i x y => (W.cell? (a.add (i * 2)) = some (.int .i64 x) ∧ W.cell? (a.add (i * 2 + 1)) = some (.int .i64 y)) ∧ x ≤ 9223372036854775807 ∧ y ≤ 9223372036854775807) sl hall
    subst hL
    refine ⟨L, ⟨_, _, rfl, hl, hm, fun h0 => ?_⟩, by omega, fun i => ?_⟩
    · obtain ⟨b, off, spot⟩ := a
      have hc := (hLc 0 h0).1.1
      have hspot : spot = none := by simpa [Addr.add] using World.cell?_spot hc
      subst hspot
      have hadd : ∀ j, (⟨b, off, none⟩ : Addr).add j = ⟨b, off + j, none⟩ := by
        intro j; unfold Addr.add; split <;> simp_all
      exact ⟨b, off, rfl, fun i hi => by have := (hLc i hi).1; rw [hadd, hadd] at this; rwa [Nat.add_assoc]⟩
    · by_cases hi : i < L.length
      · exact (hLc i hi).2
      · rw [List.getD_eq_getElem?_getD, List.getElem?_eq_none (by omega)]
        exact ⟨by decide, by decide⟩
end Go.Proofs.Ytdjiihcbaedmcaa
