/- A slice of integers that comes in as an argument, opened. -/
import Derived.Test.YtecbbdbeihiioaaMtT
import Derived.Test.YtecbbdbeihiioaaRows
import Derived.OpenShut
import Derived.Lib.SmallJoins
import Derived.Deep.Slices
import Derived.ChangeSame
namespace Go.Proofs.Ytecbbdbeihiioaa
open Go.ChangeShapes Go.WideShapes Go.Deep Go.RowKit Go.Joins
set_option linter.unusedVariables false

/-- A slice of integers of a kind. -/
def IntsAt (k : IntKind) (w : World) (v : Value) (L : List Int) : Prop :=
  (∀ x ∈ L, (Lit.int k x).wf = true) ∧ ∃ a c, v = .slice a L.length c ∧ L.length ≤ c ∧ c ≤ maxLen ∧
    (0 < L.length → ∃ b off, a = some ⟨b, off, none⟩ ∧ ∀ j, j < L.length → w.cell? ⟨b, off + j, none⟩ = some (.int k (L.getD j 0)))
theorem IntsAt.later {k : IntKind} {w w' : World} {v : Value} {L : List Int} (h : IntsAt k w v L) (hb : Below w.heap.size w w') : IntsAt k w' v L := by
  obtain ⟨h0, a, c, rfl, hl, hc, hr⟩ := h
  refine ⟨h0, a, c, rfl, hl, hc, fun hp => ?_⟩
  obtain ⟨b, off, rfl, hcell⟩ := hr hp
  exact ⟨b, off, rfl, fun j hj => cell_later hb (hcell j hj)⟩

theorem int_list {P : Nat → Int → Prop} : ∀ n, (∀ i, i < n → ∃ x, P i x) → ∃ L : List Int, L.length = n ∧ ∀ i, i < n → P i (L.getD i 0)
  | 0, _ => ⟨[], rfl, fun i hi => by omega⟩
  | n + 1, h => by
    obtain ⟨L, hl, hL⟩ := int_list n (fun i hi => h i (by omega))
    obtain ⟨x, hx⟩ := h n (by omega)
    refine ⟨L ++ [x], by simp [hl], fun i hi => ?_⟩
    by_cases hin : i < n
    · have := hL i hin
      rw [List.getD_eq_getElem?_getD, List.getElem?_append_left (by omega), ← List.getD_eq_getElem?_getD]
      exact this
    · obtain rfl : i = n := by omega
      rw [List.getD_eq_getElem?_getD, List.getElem?_append_right (by omega)]
      simpa [hl] using hx

theorem ints_open {H : Type} {enc : TypeId × Value → H} {P : Program} {W : World} {t e : TypeId} {k : IntKind} {n : Nat} {d : DataW H} {p : List MemPlace} {sa : Option Addr} {sl sc : Nat} (ht : P.underlying t = some (.slice e)) (he : P.underlying e = some (.int k)) (hC : P.cellsOf e = 1)
    (h : DataW.Trod enc P W 0 (fun _ => true) true t (.slice sa sl sc) d p)
    (hsz : ∀ elems spare, d = .slice elems spare → (elems.length + spare.length) * n ≤ 140737488351232) :
    ∃ L, IntsAt k W (.slice sa sl sc) L ∧ L.length * n ≤ 140737488351232 := by
  obtain ⟨fuel, hf⟩ := h
  rcases open_slice1 ht hC hf with ⟨hcs, hx⟩ | ⟨a, len, cap, m, q, V, D, Pl, hcs, _, hl, hm, hmm, hx, hcell⟩
  · simp [Value.cells] at hcs
    obtain ⟨rfl, rfl, rfl⟩ := hcs
    exact ⟨[], ⟨by simp, none, 0, rfl, Nat.le_refl _, by decide, fun h => by cases h⟩, by simp⟩
  · simp [Value.cells] at hcs
    obtain ⟨rfl, rfl, rfl⟩ := hcs
    simp only [Prod.mk.injEq] at hx
    have hz := hsz _ _ hx.1
    simp at hz
    simp at hmm
    have hall : ∀ i, i < sl → ∃ x, W.cell? (a.add i) = some (.int k x) ∧ (Lit.int k x).wf = true := by
      intro i hi
      obtain ⟨hc0, ht0⟩ := hcell i (by omega)
      obtain ⟨x, f0, hd, w0⟩ := DataW.trod_int he ht0
      simp at f0
      rw [f0] at hc0
      exact ⟨x, hc0, w0⟩
    obtain ⟨L, hL, hLc⟩ := int_list (P := fun i x => W.cell? (a.add i) = some (.int k x) ∧ (Lit.int k x).wf = true) sl hall
    subst hL
    refine ⟨L, ⟨?_, _, _, rfl, hl, hm, fun h0 => ?_⟩, Nat.le_trans (Nat.mul_le_mul_right n (by omega)) hz⟩
    · intro x hx'
      obtain ⟨j, hj, rfl⟩ := List.getElem_of_mem hx'
      have := (hLc j hj).2
      rw [List.getD_eq_getElem?_getD, List.getElem?_eq_getElem hj] at this
      exact this
    · obtain ⟨b, off, spot⟩ := a
      have hc := (hLc 0 h0).1
      have hspot : spot = none := by simpa [Addr.add] using World.cell?_spot hc
      subst hspot
      have hadd : ∀ j, (⟨b, off, none⟩ : Addr).add j = ⟨b, off + j, none⟩ := by
        intro j; unfold Addr.add; split <;> simp_all
      exact ⟨b, off, rfl, fun i hi => by have := (hLc i hi).1; rwa [hadd] at this⟩

theorem u64_of_wf {x : Int} (h : (Lit.int .u64 x).wf = true) : 0 ≤ x ∧ x < 18446744073709551616 := by
  have e1 : IntKind.u64.min = 0 := by decide
  have e2 : IntKind.u64.max = 18446744073709551615 := by decide
  simp only [Lit.wf, e1, e2, Bool.and_eq_true, decide_eq_true_eq] at h
  omega

theorem u64s_of {w : World} {v : Value} {L : List Int} (h : IntsAt .u64 w v L) : U64At w v (L.map Int.toNat) := by
  obtain ⟨h0, a, c, rfl, hl, hc, hr⟩ := h
  have hlen : (L.map Int.toNat).length = L.length := by simp
  refine ⟨?_, a, c, by rw [hlen], by rw [hlen]; exact hl, hc, fun hp => ?_⟩
  · intro x hx
    obtain ⟨y, hy, rfl⟩ := List.mem_map.1 hx
    have := u64_of_wf (h0 y hy)
    omega
  · obtain ⟨b, off, rfl, hcell⟩ := hr (by omega)
    refine ⟨b, off, rfl, fun j hj => ?_⟩
    rw [hlen] at hj
    have hm : L.getD j 0 ∈ L := by
      rw [List.getD_eq_getElem?_getD, List.getElem?_eq_getElem hj]
      exact List.getElem_mem hj
    have hw := u64_of_wf (h0 _ hm)
    have e : ((L.map Int.toNat).getD j 0 : Int) = L.getD j 0 := by
      rw [List.getD_eq_getElem?_getD, List.getElem?_map, List.getD_eq_getElem?_getD, List.getElem?_eq_getElem hj] at *
      simp at *
      omega
    rw [e]
    exact hcell j hj
end Go.Proofs.Ytecbbdbeihiioaa
