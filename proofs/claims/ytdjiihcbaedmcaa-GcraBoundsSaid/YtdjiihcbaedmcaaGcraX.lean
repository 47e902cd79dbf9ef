/- GcraBounds: the clamped list and a row of asks that is written. -/
import Derived.Test.YtdjiihcbaedmcaaGcraW
import Derived.Test.YtdjiihcbaedmcaaGcraO
namespace Go.Proofs.Ytdjiihcbaedmcaa
open Go.RowKit

/-- The asks, clamped, the clocks never going back. -/
def clampL : Int → List (Int × Int) → List (Int × Int)
  | _, [] => []
  | last, p :: L => (max (clampI p.1) last, clampI p.2) :: clampL (max (clampI p.1) last) L
/-- The last clock. -/
def lastL : Int → List (Int × Int) → Int
  | last, [] => last
  | last, p :: L => lastL (max (clampI p.1) last) L

theorem clampL_len (L : List (Int × Int)) : ∀ last, (clampL last L).length = L.length := by
  induction L with
  | nil => intro _; rfl
  | cons p L ih => intro last; simp [clampL, ih]

theorem clampL_snoc (L : List (Int × Int)) (p : Int × Int) : ∀ last, clampL last (L ++ [p]) = clampL last L ++ [(max (clampI p.1) (lastL last L), clampI p.2)] := by
  induction L with
  | nil => intro last; rfl
  | cons q L ih => intro last; simp only [List.cons_append, clampL, lastL, ih]

theorem lastL_snoc (L : List (Int × Int)) (p : Int × Int) : ∀ last, lastL last (L ++ [p]) = max (clampI p.1) (lastL last L) := by
  induction L with
  | nil => intro last; rfl
  | cons q L ih => intro last; simp only [List.cons_append, lastL, ih]

theorem lastL_tick (L : List (Int × Int)) : ∀ last, tickB last = true → tickB (lastL last L) = true := by
  induction L with
  | nil => intro _ h; exact h
  | cons q L ih =>
    intro last h
    refine ih _ ?_
    have h1 := clampI_tick q.1
    have h2 := tickB_yes h
    exact tickB_mk (by omega) (by omega)

theorem clampL_ok (L : List (Int × Int)) : ∀ last, tickB last = true → (clampL last L).all okA = true := by
  induction L with
  | nil => intro _ _; rfl
  | cons q L ih =>
    intro last h
    have h1 := clampI_tick q.1
    have h3 := clampI_tick q.2
    have h2 := tickB_yes h
    have hm : tickB (max (clampI q.1) last) = true := tickB_mk (by omega) (by omega)
    simp only [clampL, List.all_cons, Bool.and_eq_true]
    refine ⟨?_, ih _ hm⟩
    simp only [okA, Bool.and_eq_true]
    exact ⟨hm, tickB_mk (by omega) (by omega)⟩

/-- A row of asks that may be written. -/
def RowIs (w : World) (g : Nat) (M : List (Int × Int)) : Prop :=
  ∀ i, i < M.length → w.cell? ⟨g, i * 2, none⟩ = some (.int .i64 (M.getD i (0, 0)).1) ∧ w.cell? ⟨g, i * 2 + 1, none⟩ = some (.int .i64 (M.getD i (0, 0)).2) ∧ w.frozen? ⟨g, i * 2, none⟩ = false ∧ w.frozen? ⟨g, i * 2 + 1, none⟩ = false

def mixL (k : Nat) (L : List (Int × Int)) : List (Int × Int) := clampL 0 (L.take k) ++ L.drop k

theorem mixL_len (k : Nat) (L : List (Int × Int)) (h : k ≤ L.length) : (mixL k L).length = L.length := by
  simp [mixL, clampL_len]; omega

theorem mixL_at {k : Nat} {L : List (Int × Int)} (h : k < L.length) : (mixL k L).getD k (0, 0) = L.getD k (0, 0) := by
  have hl : (clampL 0 (L.take k)).length = k := by simp [clampL_len]; omega
  rw [mixL, List.getD_eq_getElem?_getD, List.getElem?_append_right (by omega), hl, List.getElem?_drop, List.getD_eq_getElem?_getD]
  simp

theorem mixL_next {k : Nat} {L : List (Int × Int)} (h : k < L.length) : mixL (k + 1) L = (mixL k L).set k (max (clampI (L.getD k (0, 0)).1) (lastL 0 (L.take k)), clampI (L.getD k (0, 0)).2) := by
  have hl : (clampL 0 (L.take k)).length = k := by simp [clampL_len]; omega
  have hd : L.drop k = L.getD k (0, 0) :: L.drop (k + 1) := by
    rw [List.drop_eq_getElem_cons h, List.getD_eq_getElem?_getD, List.getElem?_eq_getElem h]; rfl
  rw [mixL, mixL, take_snocA h, clampL_snoc, List.set_append_right _ _ (by omega), hl, Nat.sub_self, hd]
  simp

theorem RowIs.at {w : World} {g : Nat} {M : List (Int × Int)} (h : RowIs w g M) {i : Nat} (hi : i < M.length) {p : Int × Int} (hp : M.getD i (0, 0) = p) :
    w.cell? ⟨g, i * 2, none⟩ = some (.int .i64 p.1) ∧ w.cell? ⟨g, i * 2 + 1, none⟩ = some (.int .i64 p.2) ∧ w.frozen? ⟨g, i * 2, none⟩ = false ∧ w.frozen? ⟨g, i * 2 + 1, none⟩ = false := by
  subst hp; exact h i hi
theorem RowIs.later {w w' : World} {g : Nat} {M : List (Int × Int)} (h : RowIs w g M) (hb : Below w.heap.size w w') (hg : 0 < M.length → g < w.heap.size) : RowIs w' g M := by
  intro i hi
  obtain ⟨h0, h1, h2, h3⟩ := h i hi
  have hl := hg (by omega)
  exact ⟨cell_later hb h0, cell_later hb h1, (hb.frozen (p := ⟨g, i * 2, none⟩) hl).trans h2, (hb.frozen (p := ⟨g, i * 2 + 1, none⟩) hl).trans h3⟩

theorem getD_set_same {M : List (Int × Int)} {k : Nat} {p : Int × Int} (hk : k < M.length) : (M.set k p).getD k (0, 0) = p := by
  simp [List.getD_eq_getElem?_getD, hk]

theorem getD_set_other {M : List (Int × Int)} {k i : Nat} {p : Int × Int} (h : k ≠ i) : (M.set k p).getD i (0, 0) = M.getD i (0, 0) := by
  simp [List.getD_eq_getElem?_getD, h]

theorem RowIs.put1 {w : World} {g : Nat} {M : List (Int × Int)} (h : RowIs w g M) {k : Nat} (hk : k < M.length) (x : Int) : RowIs (w.setCell ⟨g, k * 2, none⟩ (.int .i64 x)) g (M.set k (x, (M.getD k (0, 0)).2)) := by
  intro i hi
  rw [List.length_set] at hi
  obtain ⟨h0, h1, h2, h3⟩ := h i hi
  by_cases hik : k = i
  · subst hik
    rw [getD_set_same hk]
    exact ⟨World.cell?_setCell_same _ _ _ h0, (World.cell?_setCell_other _ _ _ _ (by simp)).trans h1, by simpa using h2, by simpa using h3⟩
  · rw [getD_set_other hik]
    exact ⟨(World.cell?_setCell_other _ _ _ _ (by first | (simp; done) | (simp; omega))).trans h0, (World.cell?_setCell_other _ _ _ _ (by first | (simp; done) | (simp; omega))).trans h1, by simpa using h2, by simpa using h3⟩

theorem RowIs.put2 {w : World} {g : Nat} {M : List (Int × Int)} (h : RowIs w g M) {k : Nat} (hk : k < M.length) (y : Int) : RowIs (w.setCell ⟨g, k * 2 + 1, none⟩ (.int .i64 y)) g (M.set k ((M.getD k (0, 0)).1, y)) := by
  intro i hi
  rw [List.length_set] at hi
  obtain ⟨h0, h1, h2, h3⟩ := h i hi
  by_cases hik : k = i
  · subst hik
    rw [getD_set_same hk]
    exact ⟨(World.cell?_setCell_other _ _ _ _ (by simp)).trans h0, World.cell?_setCell_same _ _ _ h1, by simpa using h2, by simpa using h3⟩
  · rw [getD_set_other hik]
    exact ⟨(World.cell?_setCell_other _ _ _ _ (by first | (simp; done) | (simp; omega))).trans h0, (World.cell?_setCell_other _ _ _ _ (by first | (simp; done) | (simp; omega))).trans h1, by simpa using h2, by simpa using h3⟩
end Go.Proofs.Ytdjiihcbaedmcaa
