/- A slice of asks that comes in as an argument, opened. -/
import Derived.Test.YtdjiihcbaedmcaaGcraR
import Derived.OpenShut
import Derived.Lib.SmallJoins
import Derived.Deep.Slices
import Derived.Deep.Fields
import Derived.ChangeSame
namespace Go.Proofs.Ytdjiihcbaedmcaa
open Go.ChangeShapes Go.WideShapes Go.Deep Go.RowKit Go.Joins

section
variable {H : Type} {enc : TypeId × Value → H} {P : Program} {w : World} {base : Nat} {spare : Nat → Bool} {held : Bool}
theorem open_slice_fields {t e : TypeId} {fs : Array Field} {fuel : Nat} {cs : List Value} {x : DataW H × List MemPlace} (ht : P.underlying t = some (.slice e)) (he : P.underlying e = some (.struct fs))
    (hone : oneCellFields P fs = true) (hC : P.cellsOf e = fs.size) (h : DataW.trod enc P w base spare held fuel t cs = some x) :
    (cs = [.slice none 0 0] ∧ x = (.nil, [])) ∨
    ∃ (a : Addr) (len cap m : Nat) (D : Nat → DataW H) (Pl : Nat → List MemPlace), cs = [.slice (some a) len cap] ∧ base ≤ a.block ∧ len ≤ cap ∧ cap ≤ maxLen ∧ m = (if spare a.block then cap else len) ∧
      x = (.slice ((List.range len).map D) ((List.range (m - len)).map fun j => D (len + j)), MemPlace.row a (m * fs.size) ++ (List.range m).flatMap Pl) ∧
      ∀ i, i < m → ∃ (ys : List (DataW H × List MemPlace)) (n : Nat), D i = .agg (ys.map (·.1)) ∧ Pl i = ys.flatMap (·.2) ∧ ys.length = fs.size ∧
        ∀ (j : Nat) (f : Field), fs[j]? = some f → ∃ (v : Value) (y : DataW H × List MemPlace), w.cell? (a.add (i * fs.size + j)) = some v ∧ ys[j]? = some y ∧ DataW.trod enc P w base spare held n f.type [v] = some y := by
  rcases open_slice ht h with h0 | ⟨a, len, cap, m, n, D, Pl, hcs, hb, hl, hm, hmm, hx, hi⟩
  · exact .inl h0
  · refine .inr ⟨a, len, cap, m, D, Pl, hcs, hb, hl, hm, hmm, by rw [hC] at hx; exact hx, fun i him => ?_⟩
    obtain ⟨cs', hc, ht'⟩ := hi i him
    rw [hC] at hc
    obtain ⟨ys, n', hn', hy, hlen, hyl, hf⟩ := DataW.trod_struct he ht'
    obtain ⟨_, hcl, hat⟩ := World.cells?_some hc
    simp only [Prod.mk.injEq] at hy
    refine ⟨ys, n', hy.1, hy.2, hyl, fun j f hj => ?_⟩
    obtain ⟨ho, hk⟩ := hone_of hone j f hj
    have hjl : j < fs.size := (Array.getElem?_eq_some_iff.1 hj).1
    have hcell := hat j hjl
    have hv : cs'[j]? = some (cs'[j]'(by omega)) := List.getElem?_eq_getElem (by omega)
    have h1 := hf j f hj
    rw [ho, hk] at h1
    have hone' : (cs'.drop j).take 1 = [cs'[j]'(by omega)] := by
      rw [List.drop_eq_getElem_cons (by omega)]
      rfl
    rw [hone'] at h1
    have hys : ys[j]? = some (ys[j]'(by omega)) := List.getElem?_eq_getElem (by omega)
    refine ⟨_, _, ?_, hys, h1.trans hys⟩
    rw [← Go.Deep.add_add, hcell, hv]
end

theorem ask_list {P : Nat → Int → Int → Prop} : ∀ n, (∀ i, i < n → ∃ x y, P i x y) → ∃ L : List (Int × Int), L.length = n ∧ ∀ i, i < n → P i (L.getD i (0, 0)).1 (L.getD i (0, 0)).2
  | 0, _ => ⟨[], rfl, fun i hi => by omega⟩
  | n + 1, h => by
    obtain ⟨L, hl, hL⟩ := ask_list n (fun i hi => h i (by omega))
    obtain ⟨x, y, hxy⟩ := h n (by omega)
    refine ⟨L ++ [(x, y)], by simp [hl], fun i hi => ?_⟩
    by_cases hin : i < n
    · have := hL i hin
      rw [List.getD_eq_getElem?_getD, List.getElem?_append_left (by omega), ← List.getD_eq_getElem?_getD]
      exact this
    · obtain rfl : i = n := by omega
      rw [List.getD_eq_getElem?_getD, List.getElem?_append_right (by omega)]
      simpa [hl] using hxy

theorem ask_open {H : Type} {enc : TypeId × Value → H} {W : World} {d : DataW H} {p : List MemPlace} {sa : Option Addr} {sl sc : Nat} (h : DataW.Trod enc Try.prog W 0 (fun _ => true) true 67 (.slice sa sl sc) d p)
    (hsz : ∀ elems spare, d = .slice elems spare → (elems.length + spare.length) * 16 ≤ 140737488351232) :
    ∃ L, AskAt W (.slice sa sl sc) L ∧ (L.length + 1) * 16 ≤ 140737488355328 := by
  obtain ⟨fuel, hf⟩ := h
  rcases open_slice_fields Try.underlying67 Try.underlying79 (by kernel_rfl) (by kernel_rfl) hf with ⟨hcs, hx⟩ | ⟨a, len, cap, m, D, Pl, hcs, _, hl, hm, hmm, hx, hcell⟩
  · simp [Value.cells] at hcs
    obtain ⟨rfl, rfl, rfl⟩ := hcs
    exact ⟨[], ⟨none, 0, rfl, Nat.le_refl _, by decide, fun h => by cases h⟩, by decide⟩
  · simp [Value.cells] at hcs
    obtain ⟨rfl, rfl, rfl⟩ := hcs
    simp only [Prod.mk.injEq] at hx
    have hz := hsz _ _ hx.1
    simp at hz
    simp at hmm
    have hall : ∀ i, i < sl → ∃ x y, W.cell? (a.add (i * 2)) = some (.int .i64 x) ∧ W.cell? (a.add (i * 2 + 1)) = some (.int .i64 y) := by
      intro i hi
      obtain ⟨ys, n, -, -, -, hf'⟩ := hcell i (by omega)
      obtain ⟨v0, y0, hc0, -, ht0⟩ := hf' 0 _ rfl
      obtain ⟨v1, y1, hc1, -, ht1⟩ := hf' 1 _ rfl
      obtain ⟨x, f0, rfl, w0⟩ := DataW.trod_int Try.underlying2 ht0
      obtain ⟨y, f1, rfl, w1⟩ := DataW.trod_int Try.underlying2 ht1
      simp at f0 f1
      subst f0 f1
      exact ⟨x, y, hc0, hc1⟩
    obtain ⟨L, hL, hLc⟩ := ask_list (P := fun i x y => W.cell? (a.add (i * 2)) = some (.int .i64 x) ∧ W.cell? (a.add (i * 2 + 1)) = some (.int .i64 y)) sl hall
    subst hL
    refine ⟨L, ⟨_, _, rfl, hl, hm, fun h0 => ?_⟩, by omega⟩
    obtain ⟨b, off, spot⟩ := a
    have hc := (hLc 0 h0).1
    have hspot : spot = none := by simpa [Addr.add] using World.cell?_spot hc
    subst hspot
    have hadd : ∀ j, (⟨b, off, none⟩ : Addr).add j = ⟨b, off + j, none⟩ := by
      intro j; unfold Addr.add; split <;> simp_all
    exact ⟨b, off, rfl, fun i hi => by have := hLc i hi; rw [hadd, hadd] at this; rwa [Nat.add_assoc]⟩
end Go.Proofs.Ytdjiihcbaedmcaa
