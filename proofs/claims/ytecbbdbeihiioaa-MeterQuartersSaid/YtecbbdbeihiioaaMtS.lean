/- Contract of meter.Merge, where both lists have numbers. -/
import Derived.Test.YtecbbdbeihiioaaMtR
import Derived.Test.YtecbbdbeihiioaaMtG
import Derived.StillTailTactics
namespace Go.Proofs.Ytecbbdbeihiioaa
open Go.RowKit
set_option linter.unusedVariables false

attribute [local go_sem] run_store_float'

/-- The world, under a name of which only this is known. -/
theorem wp_name {P : Program} {c : Code} {Q : Exit → Act → World → Prop} {a : Act} {w : World} (S : World → Prop) (hs : S w) (h : ∀ u, S u → Code.wp P c Q a u) : Code.wp P c Q a w := h w hs

theorem MtCell.drewN {w : World} {B : Nat} {m : Mt} (h : MtCell w B m) (n : Nat) : MtCell (w.drewN n) B m := h
theorem MtCell.drew {w : World} {B : Nat} {m : Mt} (h : MtCell w B m) : MtCell w.drew B m := h
theorem cell_other {w : World} {B C i j : Nat} {v : Value} (hne : C ≠ B) : (w.setCell ⟨C, i, none⟩ v).cell? ⟨B, j, none⟩ = w.cell? ⟨B, j, none⟩ := World.cell?_setCell_other _ _ _ _ (by intro h; injection h with h1; exact hne h1)
theorem MtCell.other {w : World} {B C i : Nat} {m : Mt} {v : Value} (h : MtCell w B m) (hne : C ≠ B) : MtCell (w.setCell ⟨C, i, none⟩ v) B m := by
  obtain ⟨⟨a0, a1, a2, a3, a4, a5, a6, a7⟩, f0, f1, f2, f3, f4, f5, f6, f7⟩ := h
  unfold MtCell
  exact ⟨⟨(cell_other hne).trans a0, (cell_other hne).trans a1, (cell_other hne).trans a2, (cell_other hne).trans a3, (cell_other hne).trans a4, (cell_other hne).trans a5, (cell_other hne).trans a6, (cell_other hne).trans a7⟩, by simp [go_sem, f0], by simp [go_sem, f1], by simp [go_sem, f2], by simp [go_sem, f3], by simp [go_sem, f4], by simp [go_sem, f5], by simp [go_sem, f6], by simp [go_sem, f7]⟩
theorem MtCell.set0 {w : World} {B : Nat} {m : Mt} (h : MtCell w B m) (x : Int) : MtCell (w.setCell ⟨B, 0, none⟩ (.int .i64 x)) B { m with N := x } := by
  obtain ⟨⟨a0, a1, a2, a3, a4, a5, a6, a7⟩, f0, f1, f2, f3, f4, f5, f6, f7⟩ := h
  unfold MtCell
  refine ⟨⟨?_, ?_, ?_, ?_, ?_, ?_, ?_, ?_⟩, ?_, ?_, ?_, ?_, ?_, ?_, ?_, ?_⟩ <;> simp [go_sem, a0, a1, a2, a3, a4, a5, a6, a7, f0, f1, f2, f3, f4, f5, f6, f7]
theorem MtCell.set1 {w : World} {B : Nat} {m : Mt} (h : MtCell w B m) (x : Int) : MtCell (w.setCell ⟨B, 1, none⟩ (.int .i64 x)) B { m with Bad := x } := by
  obtain ⟨⟨a0, a1, a2, a3, a4, a5, a6, a7⟩, f0, f1, f2, f3, f4, f5, f6, f7⟩ := h
  unfold MtCell
  refine ⟨⟨?_, ?_, ?_, ?_, ?_, ?_, ?_, ?_⟩, ?_, ?_, ?_, ?_, ?_, ?_, ?_, ?_⟩ <;> simp [go_sem, a0, a1, a2, a3, a4, a5, a6, a7, f0, f1, f2, f3, f4, f5, f6, f7]
theorem MtCell.set2 {w : World} {B : Nat} {m : Mt} (h : MtCell w B m) (x : Nat) : MtCell (w.setCell ⟨B, 2, none⟩ (.float .f64 x)) B { m with S := x } := by
  obtain ⟨⟨a0, a1, a2, a3, a4, a5, a6, a7⟩, f0, f1, f2, f3, f4, f5, f6, f7⟩ := h
  unfold MtCell
  refine ⟨⟨?_, ?_, ?_, ?_, ?_, ?_, ?_, ?_⟩, ?_, ?_, ?_, ?_, ?_, ?_, ?_, ?_⟩ <;> simp [go_sem, a0, a1, a2, a3, a4, a5, a6, a7, f0, f1, f2, f3, f4, f5, f6, f7]
theorem MtCell.set3 {w : World} {B : Nat} {m : Mt} (h : MtCell w B m) (x : Nat) : MtCell (w.setCell ⟨B, 3, none⟩ (.float .f64 x)) B { m with L := x } := by
  obtain ⟨⟨a0, a1, a2, a3, a4, a5, a6, a7⟩, f0, f1, f2, f3, f4, f5, f6, f7⟩ := h
  unfold MtCell
  refine ⟨⟨?_, ?_, ?_, ?_, ?_, ?_, ?_, ?_⟩, ?_, ?_, ?_, ?_, ?_, ?_, ?_, ?_⟩ <;> simp [go_sem, a0, a1, a2, a3, a4, a5, a6, a7, f0, f1, f2, f3, f4, f5, f6, f7]
theorem MtCell.set4 {w : World} {B : Nat} {m : Mt} (h : MtCell w B m) (x : Nat) : MtCell (w.setCell ⟨B, 4, none⟩ (.float .f64 x)) B { m with Lo := x } := by
  obtain ⟨⟨a0, a1, a2, a3, a4, a5, a6, a7⟩, f0, f1, f2, f3, f4, f5, f6, f7⟩ := h
  unfold MtCell
  refine ⟨⟨?_, ?_, ?_, ?_, ?_, ?_, ?_, ?_⟩, ?_, ?_, ?_, ?_, ?_, ?_, ?_, ?_⟩ <;> simp [go_sem, a0, a1, a2, a3, a4, a5, a6, a7, f0, f1, f2, f3, f4, f5, f6, f7]
theorem MtCell.set5 {w : World} {B : Nat} {m : Mt} (h : MtCell w B m) (x : Nat) : MtCell (w.setCell ⟨B, 5, none⟩ (.float .f64 x)) B { m with Hi := x } := by
  obtain ⟨⟨a0, a1, a2, a3, a4, a5, a6, a7⟩, f0, f1, f2, f3, f4, f5, f6, f7⟩ := h
  unfold MtCell
  refine ⟨⟨?_, ?_, ?_, ?_, ?_, ?_, ?_, ?_⟩, ?_, ?_, ?_, ?_, ?_, ?_, ?_, ?_⟩ <;> simp [go_sem, a0, a1, a2, a3, a4, a5, a6, a7, f0, f1, f2, f3, f4, f5, f6, f7]
theorem MtCell.set6 {w : World} {B : Nat} {m : Mt} (h : MtCell w B m) (x : Nat) : MtCell (w.setCell ⟨B, 6, none⟩ (.float .f64 x)) B { m with Me := x } := by
  obtain ⟨⟨a0, a1, a2, a3, a4, a5, a6, a7⟩, f0, f1, f2, f3, f4, f5, f6, f7⟩ := h
  unfold MtCell
  refine ⟨⟨?_, ?_, ?_, ?_, ?_, ?_, ?_, ?_⟩, ?_, ?_, ?_, ?_, ?_, ?_, ?_, ?_⟩ <;> simp [go_sem, a0, a1, a2, a3, a4, a5, a6, a7, f0, f1, f2, f3, f4, f5, f6, f7]
theorem MtCell.set7 {w : World} {B : Nat} {m : Mt} (h : MtCell w B m) (x : Nat) : MtCell (w.setCell ⟨B, 7, none⟩ (.float .f64 x)) B { m with Sp := x } := by
  obtain ⟨⟨a0, a1, a2, a3, a4, a5, a6, a7⟩, f0, f1, f2, f3, f4, f5, f6, f7⟩ := h
  unfold MtCell
  refine ⟨⟨?_, ?_, ?_, ?_, ?_, ?_, ?_, ?_⟩, ?_, ?_, ?_, ?_, ?_, ?_, ?_, ?_⟩ <;> simp [go_sem, a0, a1, a2, a3, a4, a5, a6, a7, f0, f1, f2, f3, f4, f5, f6, f7]

/-- Three meters in blocks A, B, C; nothing below changed. -/
def Mt3 (w0 : World) (A B C : Nat) (a b c : Mt) (u : World) : Prop := MtCell u A a ∧ MtCell u B b ∧ MtCell u C c ∧ Below w0.heap.size w0 u
theorem Mt3.drewN {w0 u : World} {A B C : Nat} {a b c : Mt} (h : Mt3 w0 A B C a b c u) (n : Nat) : Mt3 w0 A B C a b c (u.drewN n) := ⟨h.1.drewN n, h.2.1.drewN n, h.2.2.1.drewN n, below_drewN h.2.2.2 n⟩
theorem Mt3.drew {w0 u : World} {A B C : Nat} {a b c : Mt} (h : Mt3 w0 A B C a b c u) : Mt3 w0 A B C a b c u.drew := ⟨h.1, h.2.1, h.2.2.1, h.2.2.2.drew⟩
theorem Mt3.setA {w0 u : World} {A B C i : Nat} {a a' b c : Mt} {v : Value} (h : Mt3 w0 A B C a b c u) (hA : w0.heap.size ≤ A) (h1 : A ≠ B) (h2 : A ≠ C) (hm : MtCell u A a → MtCell (u.setCell ⟨A, i, none⟩ v) A a') : Mt3 w0 A B C a' b c (u.setCell ⟨A, i, none⟩ v) :=
  ⟨hm h.1, h.2.1.other h1, h.2.2.1.other h2, h.2.2.2.setCell hA _⟩
theorem Mt3.setC {w0 u : World} {A B C i : Nat} {a b c c' : Mt} {v : Value} (h : Mt3 w0 A B C a b c u) (hA : w0.heap.size ≤ C) (h1 : C ≠ A) (h2 : C ≠ B) (hm : MtCell u C c → MtCell (u.setCell ⟨C, i, none⟩ v) C c') : Mt3 w0 A B C a b c' (u.setCell ⟨C, i, none⟩ v) :=
  ⟨h.1.other h1, h.2.1.other h2, hm h.2.2.1, h.2.2.2.setCell hA _⟩

theorem Mt3.a0 {w0 u : World} {A B C : Nat} {N Bad : Int} {S L Lo Hi Me Sp : Nat} {x : Int} {b c : Mt} (hA : w0.heap.size ≤ A) (h1 : A ≠ B) (h2 : A ≠ C) (h : Mt3 w0 A B C ⟨N, Bad, S, L, Lo, Hi, Me, Sp⟩ b c u) : Mt3 w0 A B C ⟨x, Bad, S, L, Lo, Hi, Me, Sp⟩ b c (u.setCell ⟨A, 0, none⟩ (.int .i64 x)) := h.setA hA h1 h2 (fun k => k.set0 x)
theorem Mt3.c0 {w0 u : World} {A B C : Nat} {N Bad : Int} {S L Lo Hi Me Sp : Nat} {x : Int} {a b : Mt} (hA : w0.heap.size ≤ C) (h1 : C ≠ A) (h2 : C ≠ B) (h : Mt3 w0 A B C a b ⟨N, Bad, S, L, Lo, Hi, Me, Sp⟩ u) : Mt3 w0 A B C a b ⟨x, Bad, S, L, Lo, Hi, Me, Sp⟩ (u.setCell ⟨C, 0, none⟩ (.int .i64 x)) := h.setC hA h1 h2 (fun k => k.set0 x)
theorem Mt3.a1 {w0 u : World} {A B C : Nat} {N Bad : Int} {S L Lo Hi Me Sp : Nat} {x : Int} {b c : Mt} (hA : w0.heap.size ≤ A) (h1 : A ≠ B) (h2 : A ≠ C) (h : Mt3 w0 A B C ⟨N, Bad, S, L, Lo, Hi, Me, Sp⟩ b c u) : Mt3 w0 A B C ⟨N, x, S, L, Lo, Hi, Me, Sp⟩ b c (u.setCell ⟨A, 1, none⟩ (.int .i64 x)) := h.setA hA h1 h2 (fun k => k.set1 x)
theorem Mt3.c1 {w0 u : World} {A B C : Nat} {N Bad : Int} {S L Lo Hi Me Sp : Nat} {x : Int} {a b : Mt} (hA : w0.heap.size ≤ C) (h1 : C ≠ A) (h2 : C ≠ B) (h : Mt3 w0 A B C a b ⟨N, Bad, S, L, Lo, Hi, Me, Sp⟩ u) : Mt3 w0 A B C a b ⟨N, x, S, L, Lo, Hi, Me, Sp⟩ (u.setCell ⟨C, 1, none⟩ (.int .i64 x)) := h.setC hA h1 h2 (fun k => k.set1 x)
theorem Mt3.a2 {w0 u : World} {A B C : Nat} {N Bad : Int} {S L Lo Hi Me Sp : Nat} {x : Nat} {b c : Mt} (hA : w0.heap.size ≤ A) (h1 : A ≠ B) (h2 : A ≠ C) (h : Mt3 w0 A B C ⟨N, Bad, S, L, Lo, Hi, Me, Sp⟩ b c u) : Mt3 w0 A B C ⟨N, Bad, x, L, Lo, Hi, Me, Sp⟩ b c (u.setCell ⟨A, 2, none⟩ (.float .f64 x)) := h.setA hA h1 h2 (fun k => k.set2 x)
theorem Mt3.c2 {w0 u : World} {A B C : Nat} {N Bad : Int} {S L Lo Hi Me Sp : Nat} {x : Nat} {a b : Mt} (hA : w0.heap.size ≤ C) (h1 : C ≠ A) (h2 : C ≠ B) (h : Mt3 w0 A B C a b ⟨N, Bad, S, L, Lo, Hi, Me, Sp⟩ u) : Mt3 w0 A B C a b ⟨N, Bad, x, L, Lo, Hi, Me, Sp⟩ (u.setCell ⟨C, 2, none⟩ (.float .f64 x)) := h.setC hA h1 h2 (fun k => k.set2 x)
theorem Mt3.a3 {w0 u : World} {A B C : Nat} {N Bad : Int} {S L Lo Hi Me Sp : Nat} {x : Nat} {b c : Mt} (hA : w0.heap.size ≤ A) (h1 : A ≠ B) (h2 : A ≠ C) (h : Mt3 w0 A B C ⟨N, Bad, S, L, Lo, Hi, Me, Sp⟩ b c u) : Mt3 w0 A B C ⟨N, Bad, S, x, Lo, Hi, Me, Sp⟩ b c (u.setCell ⟨A, 3, none⟩ (.float .f64 x)) := h.setA hA h1 h2 (fun k => k.set3 x)
theorem Mt3.c3 {w0 u : World} {A B C : Nat} {N Bad : Int} {S L Lo Hi Me Sp : Nat} {x : Nat} {a b : Mt} (hA : w0.heap.size ≤ C) (h1 : C ≠ A) (h2 : C ≠ B) (h : Mt3 w0 A B C a b ⟨N, Bad, S, L, Lo, Hi, Me, Sp⟩ u) : Mt3 w0 A B C a b ⟨N, Bad, S, x, Lo, Hi, Me, Sp⟩ (u.setCell ⟨C, 3, none⟩ (.float .f64 x)) := h.setC hA h1 h2 (fun k => k.set3 x)
theorem Mt3.a4 {w0 u : World} {A B C : Nat} {N Bad : Int} {S L Lo Hi Me Sp : Nat} {x : Nat} {b c : Mt} (hA : w0.heap.size ≤ A) (h1 : A ≠ B) (h2 : A ≠ C) (h : Mt3 w0 A B C ⟨N, Bad, S, L, Lo, Hi, Me, Sp⟩ b c u) : Mt3 w0 A B C ⟨N, Bad, S, L, x, Hi, Me, Sp⟩ b c (u.setCell ⟨A, 4, none⟩ (.float .f64 x)) := h.setA hA h1 h2 (fun k => k.set4 x)
theorem Mt3.c4 {w0 u : World} {A B C : Nat} {N Bad : Int} {S L Lo Hi Me Sp : Nat} {x : Nat} {a b : Mt} (hA : w0.heap.size ≤ C) (h1 : C ≠ A) (h2 : C ≠ B) (h : Mt3 w0 A B C a b ⟨N, Bad, S, L, Lo, Hi, Me, Sp⟩ u) : Mt3 w0 A B C a b ⟨N, Bad, S, L, x, Hi, Me, Sp⟩ (u.setCell ⟨C, 4, none⟩ (.float .f64 x)) := h.setC hA h1 h2 (fun k => k.set4 x)
theorem Mt3.a5 {w0 u : World} {A B C : Nat} {N Bad : Int} {S L Lo Hi Me Sp : Nat} {x : Nat} {b c : Mt} (hA : w0.heap.size ≤ A) (h1 : A ≠ B) (h2 : A ≠ C) (h : Mt3 w0 A B C ⟨N, Bad, S, L, Lo, Hi, Me, Sp⟩ b c u) : Mt3 w0 A B C ⟨N, Bad, S, L, Lo, x, Me, Sp⟩ b c (u.setCell ⟨A, 5, none⟩ (.float .f64 x)) := h.setA hA h1 h2 (fun k => k.set5 x)
theorem Mt3.c5 {w0 u : World} {A B C : Nat} {N Bad : Int} {S L Lo Hi Me Sp : Nat} {x : Nat} {a b : Mt} (hA : w0.heap.size ≤ C) (h1 : C ≠ A) (h2 : C ≠ B) (h : Mt3 w0 A B C a b ⟨N, Bad, S, L, Lo, Hi, Me, Sp⟩ u) : Mt3 w0 A B C a b ⟨N, Bad, S, L, Lo, x, Me, Sp⟩ (u.setCell ⟨C, 5, none⟩ (.float .f64 x)) := h.setC hA h1 h2 (fun k => k.set5 x)
theorem Mt3.a6 {w0 u : World} {A B C : Nat} {N Bad : Int} {S L Lo Hi Me Sp : Nat} {x : Nat} {b c : Mt} (hA : w0.heap.size ≤ A) (h1 : A ≠ B) (h2 : A ≠ C) (h : Mt3 w0 A B C ⟨N, Bad, S, L, Lo, Hi, Me, Sp⟩ b c u) : Mt3 w0 A B C ⟨N, Bad, S, L, Lo, Hi, x, Sp⟩ b c (u.setCell ⟨A, 6, none⟩ (.float .f64 x)) := h.setA hA h1 h2 (fun k => k.set6 x)
theorem Mt3.c6 {w0 u : World} {A B C : Nat} {N Bad : Int} {S L Lo Hi Me Sp : Nat} {x : Nat} {a b : Mt} (hA : w0.heap.size ≤ C) (h1 : C ≠ A) (h2 : C ≠ B) (h : Mt3 w0 A B C a b ⟨N, Bad, S, L, Lo, Hi, Me, Sp⟩ u) : Mt3 w0 A B C a b ⟨N, Bad, S, L, Lo, Hi, x, Sp⟩ (u.setCell ⟨C, 6, none⟩ (.float .f64 x)) := h.setC hA h1 h2 (fun k => k.set6 x)
theorem Mt3.a7 {w0 u : World} {A B C : Nat} {N Bad : Int} {S L Lo Hi Me Sp : Nat} {x : Nat} {b c : Mt} (hA : w0.heap.size ≤ A) (h1 : A ≠ B) (h2 : A ≠ C) (h : Mt3 w0 A B C ⟨N, Bad, S, L, Lo, Hi, Me, Sp⟩ b c u) : Mt3 w0 A B C ⟨N, Bad, S, L, Lo, Hi, Me, x⟩ b c (u.setCell ⟨A, 7, none⟩ (.float .f64 x)) := h.setA hA h1 h2 (fun k => k.set7 x)
theorem Mt3.c7 {w0 u : World} {A B C : Nat} {N Bad : Int} {S L Lo Hi Me Sp : Nat} {x : Nat} {a b : Mt} (hA : w0.heap.size ≤ C) (h1 : C ≠ A) (h2 : C ≠ B) (h : Mt3 w0 A B C a b ⟨N, Bad, S, L, Lo, Hi, Me, Sp⟩ u) : Mt3 w0 A B C a b ⟨N, Bad, S, L, Lo, Hi, Me, x⟩ (u.setCell ⟨C, 7, none⟩ (.float .f64 x)) := h.setC hA h1 h2 (fun k => k.set7 x)

/-- The results of a walk through a merge are what mergeM says. -/
theorem merge_end {N Bad N2 Bad2 : Int} {S L Lo Hi Me Sp S2 L2 Lo2 Hi2 Me2 Sp2 s c2 c3 c4 c5 c6 c7 c8 c9 c10 c11 c12 : Nat}
    (hs : nfW s = fA .add S S2) (h2 : nfW c2 = fA .add (fA .add L L2) (lossA S S2))
    (b3 : c3 < 18446744073709551616) (b4 : c4 < 18446744073709551616) (b5 : c5 < 18446744073709551616) (b7 : c7 < 18446744073709551616) (b8 : c8 < 18446744073709551616) (b9 : c9 < 18446744073709551616) (b10 : c10 < 18446744073709551616) (b11 : c11 < 18446744073709551616)
    (h3 : nfW c3 = fA .sub Me2 Me) (h4 : nfW c4 = fA .quo (floatOfInt .f64 N2) (floatOfInt .f64 (N + N2))) (h5 : nfW c5 = fA .mul c3 c4) (h6 : nfW c6 = fA .add Me c5)
    (h7 : nfW c7 = fA .add Sp Sp2) (h8 : nfW c8 = fA .mul c3 c3) (h9 : nfW c9 = fA .mul (floatOfInt .f64 N) (floatOfInt .f64 N2)) (h10 : nfW c10 = fA .quo c9 (floatOfInt .f64 (N + N2))) (h11 : nfW c11 = fA .mul c8 c10) (h12 : nfW c12 = fA .add c7 c11) :
    mtSim ⟨N + N2, Bad + Bad2, s, c2, leastW Lo Lo2, mostW Hi Hi2, c6, c12⟩ (mergeM ⟨N, Bad, S, L, Lo, Hi, Me, Sp⟩ ⟨N2, Bad2, S2, L2, Lo2, Hi2, Me2, Sp2⟩) := by
  have e5 : nfW c5 = fA .mul (fA .sub Me2 Me) (fA .quo (floatOfInt .f64 N2) (floatOfInt .f64 (N + N2))) := h5.trans (fA_rr op_mul b3 b4 h3 h4)
  have e8 : nfW c8 = fA .mul (fA .sub Me2 Me) (fA .sub Me2 Me) := h8.trans (fA_rr op_mul b3 b3 h3 h3)
  have e10 : nfW c10 = fA .quo (fA .mul (floatOfInt .f64 N) (floatOfInt .f64 N2)) (floatOfInt .f64 (N + N2)) := by rw [h10, ← fA_left op_quo b9, h9]
  have e11 : nfW c11 = _ := h11.trans (fA_rr op_mul b8 b10 e8 e10)
  have e12 : nfW c12 = _ := h12.trans (fA_rr op_add b7 b11 h7 e11)
  have e6 : nfW c6 = _ := h6.trans ((fA_right op_add b5).symm.trans (by rw [e5]))
  refine ⟨rfl, rfl, ?_, ?_, rfl, rfl, ?_, ?_⟩
  · show nfW s = nfW (fA .add S S2); rw [hs, fA_canon op_add]
  · show nfW c2 = nfW (fA .add (fA .add L L2) (lossA S S2)); rw [h2, fA_canon op_add]
  · show nfW c6 = nfW (fA .add _ _); rw [e6, fA_canon op_add]
  · show nfW c12 = nfW (fA .add _ _); rw [e12, fA_canon op_add]

theorem loss_add {L L2 S S2 c1 c2 l : Nat} {F : Bool} (hF : finA S S2 = F) (b1 : c1 < 18446744073709551616) (bl : l < 18446744073709551616) (h1 : nfW c1 = fA .add L L2) (hl : nfW l = lossA S S2) (h2 : (F = true ∧ nfW c2 = fA .add c1 l) ∨ (F = false ∧ nfW c2 = fA .add c1 0)) : nfW c2 = fA .add (fA .add L L2) (lossA S S2) := by
  rcases h2 with ⟨rfl, h⟩ | ⟨rfl, h⟩
  · exact h.trans (fA_rr op_add b1 bl h1 hl)
  · have e : lossA S S2 = 0 := by unfold lossA; rw [if_neg (by rw [hF]; decide)]
    rw [e, h, ← fA_left op_add b1, h1]

def MgC2 (w : World) (N Bad N2 Bad2 : Int) (S L Lo Hi Me Sp S2 L2 Lo2 Hi2 Me2 Sp2 : Nat) (wx : World) : Prop := ∃ c2, nfW c2 = fA .add (fA .add L L2) (lossA S S2) ∧ c2 < 18446744073709551616 ∧ Mt3 w w.heap.size (w.heap.size + 1) (w.heap.size + 1 + 1) ⟨N, Bad, S, c2, Lo, Hi, Me, Sp⟩ ⟨N2, Bad2, S2, L2, Lo2, Hi2, Me2, Sp2⟩ ⟨0, 0, 0, 0, 0, 0, 0, 0⟩ wx

set_option maxRecDepth 100000 in
set_option maxHeartbeats 8000000 in
theorem merge_both (N Bad N2 Bad2 : Int) (S L Lo Hi Me Sp S2 L2 Lo2 Hi2 Me2 Sp2 : Nat) (w : World) (h1 : cntB N N2 = true) (h2 : cntB Bad Bad2 = true) (h0 : N ≠ 0) (h0' : N2 ≠ 0) (ok1 : (⟨N, Bad, S, L, Lo, Hi, Me, Sp⟩ : Mt).Ok) (ok2 : (⟨N2, Bad2, S2, L2, Lo2, Hi2, Me2, Sp2⟩ : Mt).Ok) :
    Calls Try.prog 31 #[mtV ⟨N, Bad, S, L, Lo, Hi, Me, Sp⟩, mtV ⟨N2, Bad2, S2, L2, Lo2, Hi2, Me2, Sp2⟩] w (MtErr w (mergeM ⟨N, Bad, S, L, Lo, Hi, Me, Sp⟩ ⟨N2, Bad2, S2, L2, Lo2, Hi2, Me2, Sp2⟩) 0) := by
  obtain ⟨n1, n2, n3⟩ := cnt_facts h1
  obtain ⟨m1, m2, m3⟩ := cnt_facts h2
  have Kn := Lib.hid (fun v => counted_any N N2 v (by omega) (by omega))
  have Kb := Lib.hid (fun v => counted_any Bad Bad2 v (by omega) (by omega))
  rw [h1] at Kn
  rw [h2] at Kb
  have Ok1 := Lib.hid ok1; have Ok2 := Lib.hid ok2
  clear h1 h2 ok1 ok2
  unfold mtV
  have Ks := Lib.hid (fun v => sum_any S S2 v Ok1.out.1 Ok2.out.1)
  obtain ⟨F, hF⟩ : ∃ F, F = finA S S2 := ⟨_, rfl⟩
  rw [← hF] at Ks
  have HF := Lib.hid hF.symm
  clear hF
  have Kl := Lib.hid (fun v => least_any Lo Lo2 v Ok1.out.2.2.1 Ok2.out.2.2.1)
  have Kh := Lib.hid (fun v => most_any Hi Hi2 v Ok1.out.2.2.2.1 Ok2.out.2.2.2.1)
  have hn0 : (N == 0) = false := beq_eq_false_iff_ne.2 h0
  have hk0 : 0 < N2 := by omega
  have H1 := Lib.hid (show wrap64 (Bad + Bad2) = Bad + Bad2 by unfold wrap64; omega)
  have H2 := Lib.hid (show IntKind.i64.wrap (Bad + Bad2) = Bad + Bad2 by simp [IntKind.wrap, IntKind.bits, IntKind.signed]; omega)
  have H3 := Lib.hid (show wrap64 (N + N2) = N + N2 by unfold wrap64; omega)
  have Ha := Lib.hid (leastW_lt Ok1.out.2.2.1 Ok2.out.2.2.1)
  have Hb := Lib.hid (mostW_lt Ok1.out.2.2.2.1 Ok2.out.2.2.2.1)
  have hAB : w.heap.size ≠ w.heap.size + 1 := by omega
  have hAC : w.heap.size ≠ w.heap.size + 1 + 1 := by omega
  have HAB := Lib.hid hAB; have HAC := Lib.hid hAC
  clear hAB hAC
  go_enter Try.func31, Try.ntmps31
  go_wp2_with (go_at_call 56; (first | with_reducible refine (Kn.out _).mono ?_ | with_reducible refine (Kb.out _).mono ?_); rintro e w' ⟨rfl, rfl⟩)
  refine wp_name (Mt3 w w.heap.size (w.heap.size + 1) (w.heap.size + 1 + 1) ⟨N, Bad, S, L, Lo, Hi, Me, Sp⟩ ⟨N2, Bad2, S2, L2, Lo2, Hi2, Me2, Sp2⟩ ⟨0, 0, 0, 0, 0, 0, 0, 0⟩) ?_ ?_
  · refine ⟨?_, ?_, ?_, (((Below.refl _ _).alloc (Nat.le_refl _) _).alloc (by simp) _).alloc (by simp; omega) _⟩
    all_goals
      unfold MtCell
      refine ⟨⟨?_, ?_, ?_, ?_, ?_, ?_, ?_, ?_⟩, ?_, ?_, ?_, ?_, ?_, ?_, ?_, ?_⟩ <;> simp [go_sem]
  intro X hx
  have HX := Lib.hid hx
  obtain ⟨⟨⟨a0, a1, a2, a3, a4, a5, a6, a7⟩, f0, f1, f2, f3, f4, f5, f6, f7⟩, ⟨⟨b0, b1, b2, b3, b4, b5, b6, b7⟩, -⟩, -, -⟩ := hx
  simp only at a0 a1 a2 a3 a4 a5 a6 a7 b0 b1 b2 b3 b4 b5 b6 b7
  have e1 := H1.out
  have e2 := H2.out
  clear n1 n2 n3 m1 m2 m3
  go_quiet (fail)
  clear e1 e2
  go_upto_region 8 with (go_at_call 49; (with_reducible refine (Ks.out _).mono ?_); rintro e w1 ⟨s, l, n1, rfl, hs, hl, bs, bl, rfl⟩)
  have Hs := Lib.hid hs; have Hl := Lib.hid hl; have Bs := Lib.hid bs; have Bl := Lib.hid bl
  clear hs hl bs bl
  -- GEN
  refine wp_name (Mt3 w w.heap.size (w.heap.size + 1) (w.heap.size + 1 + 1) ⟨N, Bad, S, L, Lo, Hi, Me, Sp⟩ ⟨N2, Bad2, S2, L2, Lo2, Hi2, Me2, Sp2⟩ ⟨0, 0, 0, 0, 0, 0, 0, 0⟩) ?_ ?_
  · repeat (first | with_reducible exact HX.out | with_reducible apply Mt3.drewN | with_reducible apply Mt3.drew | with_reducible apply Mt3.a0 (Nat.le_refl _) HAB.out HAC.out | with_reducible apply Mt3.a1 (Nat.le_refl _) HAB.out HAC.out | with_reducible apply Mt3.a2 (Nat.le_refl _) HAB.out HAC.out | with_reducible apply Mt3.a3 (Nat.le_refl _) HAB.out HAC.out | with_reducible apply Mt3.a4 (Nat.le_refl _) HAB.out HAC.out | with_reducible apply Mt3.a5 (Nat.le_refl _) HAB.out HAC.out | with_reducible apply Mt3.a6 (Nat.le_refl _) HAB.out HAC.out | with_reducible apply Mt3.a7 (Nat.le_refl _) HAB.out HAC.out)
  clear HX a0 a1 a2 a3 a4 a5 a6 a7 b0 b1 b2 b3 b4 b5 b6 b7 f0 f1 f2 f3 f4 f5 f6 f7
  intro X hx
  have HX := Lib.hid hx
  obtain ⟨⟨⟨a0, a1, a2, a3, a4, a5, a6, a7⟩, f0, f1, f2, f3, f4, f5, f6, f7⟩, ⟨⟨b0, b1, b2, b3, b4, b5, b6, b7⟩, -⟩, -, -⟩ := hx
  simp only at a0 a1 a2 a3 a4 a5 a6 a7 b0 b1 b2 b3 b4 b5 b6 b7
  go_wp2_with fail
  refine arith_upon op_add ?_
  rintro c1 k1 hc hb
  have Hc1 := Lib.hid hc; have Hb1 := Lib.hid hb; clear hc hb
  go_upto_if 60 with (fail)
  refine wp_name (Mt3 w w.heap.size (w.heap.size + 1) (w.heap.size + 1 + 1) ⟨N, Bad, S, c1, Lo, Hi, Me, Sp⟩ ⟨N2, Bad2, S2, L2, Lo2, Hi2, Me2, Sp2⟩ ⟨0, 0, 0, 0, 0, 0, 0, 0⟩) ?_ ?_
  · repeat (first | with_reducible exact HX.out | with_reducible apply Mt3.drewN | with_reducible apply Mt3.drew | with_reducible apply Mt3.a0 (Nat.le_refl _) HAB.out HAC.out | with_reducible apply Mt3.a1 (Nat.le_refl _) HAB.out HAC.out | with_reducible apply Mt3.a2 (Nat.le_refl _) HAB.out HAC.out | with_reducible apply Mt3.a3 (Nat.le_refl _) HAB.out HAC.out | with_reducible apply Mt3.a4 (Nat.le_refl _) HAB.out HAC.out | with_reducible apply Mt3.a5 (Nat.le_refl _) HAB.out HAC.out | with_reducible apply Mt3.a6 (Nat.le_refl _) HAB.out HAC.out | with_reducible apply Mt3.a7 (Nat.le_refl _) HAB.out HAC.out)
  clear HX a0 a1 a2 a3 a4 a5 a6 a7 b0 b1 b2 b3 b4 b5 b6 b7 f0 f1 f2 f3 f4 f5 f6 f7
  intro X hx
  have HX := Lib.hid hx
  obtain ⟨⟨⟨a0, a1, a2, a3, a4, a5, a6, a7⟩, f0, f1, f2, f3, f4, f5, f6, f7⟩, ⟨⟨b0, b1, b2, b3, b4, b5, b6, b7⟩, -⟩, -, -⟩ := hx
  simp only at a0 a1 a2 a3 a4 a5 a6 a7 b0 b1 b2 b3 b4 b5 b6 b7
  have HC : Hid (∀ wx c2, nfW c2 = fA .add (fA .add L L2) (lossA S S2) → c2 < 18446744073709551616 → (Mt3 w w.heap.size (w.heap.size + 1) (w.heap.size + 1 + 1) ⟨N, Bad, S, c2, Lo, Hi, Me, Sp⟩ ⟨N2, Bad2, S2, L2, Lo2, Hi2, Me2, Sp2⟩ ⟨0, 0, 0, 0, 0, 0, 0, 0⟩) wx → MgC2 w N Bad N2 Bad2 S L Lo Hi Me Sp S2 L2 Lo2 Hi2 Me2 Sp2 wx) := Lib.hid (fun wx c2 h1 h2 h3 => ⟨c2, h1, h2, h3⟩)
  go_cut [] (fun wx => MgC2 w N Bad N2 Bad2 S L Lo Hi Me Sp S2 L2 Lo2 Hi2 Me2 Sp2 wx)
  case first =>
    cases F
    all_goals
      go_wp2_with fail
      refine arith_upon op_add ?_
      rintro c2 k2 hc hb
      have Hc2 := Lib.hid hc; have Hb2 := Lib.hid hb; clear hc hb
      have Hc2' := Lib.hid (loss_add (c2 := c2) HF.out Hb1.out Bl.out Hc1.out Hl.out (by first | exact Or.inl ⟨rfl, Hc2.out⟩ | exact Or.inr ⟨rfl, Hc2.out⟩))
      go_wp2_with fail
      go_meet
      refine HC.out _ c2 Hc2'.out Hb2.out ?_
      repeat (first | with_reducible exact HX.out | with_reducible apply Mt3.drewN | with_reducible apply Mt3.drew | with_reducible apply Mt3.a0 (Nat.le_refl _) HAB.out HAC.out | with_reducible apply Mt3.a1 (Nat.le_refl _) HAB.out HAC.out | with_reducible apply Mt3.a2 (Nat.le_refl _) HAB.out HAC.out | with_reducible apply Mt3.a3 (Nat.le_refl _) HAB.out HAC.out | with_reducible apply Mt3.a4 (Nat.le_refl _) HAB.out HAC.out | with_reducible apply Mt3.a5 (Nat.le_refl _) HAB.out HAC.out | with_reducible apply Mt3.a6 (Nat.le_refl _) HAB.out HAC.out | with_reducible apply Mt3.a7 (Nat.le_refl _) HAB.out HAC.out)
  clear HC HX a0 a1 a2 a3 a4 a5 a6 a7 b0 b1 b2 b3 b4 b5 b6 b7 f0 f1 f2 f3 f4 f5 f6 f7
  case rest =>
    obtain ⟨c2, hc2, hb2, hx⟩ := hcut
    have Hc2 := Lib.hid hc2; have Hb2 := Lib.hid hb2
    clear hc2 hb2
    have HX := Lib.hid hx
    obtain ⟨⟨⟨a0, a1, a2, a3, a4, a5, a6, a7⟩, f0, f1, f2, f3, f4, f5, f6, f7⟩, ⟨⟨b0, b1, b2, b3, b4, b5, b6, b7⟩, -⟩, -, -⟩ := hx
    simp only at a0 a1 a2 a3 a4 a5 a6 a7 b0 b1 b2 b3 b4 b5 b6 b7
    go_upto_region 13 with (fail)
    refine wp_name (Mt3 w w.heap.size (w.heap.size + 1) (w.heap.size + 1 + 1) ⟨N, Bad, s, c2, Lo, Hi, Me, Sp⟩ ⟨N2, Bad2, S2, L2, Lo2, Hi2, Me2, Sp2⟩ ⟨0, 0, 0, 0, 0, 0, 0, 0⟩) ?_ ?_
    · repeat (first | with_reducible exact HX.out | with_reducible apply Mt3.drewN | with_reducible apply Mt3.drew | with_reducible apply Mt3.a0 (Nat.le_refl _) HAB.out HAC.out | with_reducible apply Mt3.a1 (Nat.le_refl _) HAB.out HAC.out | with_reducible apply Mt3.a2 (Nat.le_refl _) HAB.out HAC.out | with_reducible apply Mt3.a3 (Nat.le_refl _) HAB.out HAC.out | with_reducible apply Mt3.a4 (Nat.le_refl _) HAB.out HAC.out | with_reducible apply Mt3.a5 (Nat.le_refl _) HAB.out HAC.out | with_reducible apply Mt3.a6 (Nat.le_refl _) HAB.out HAC.out | with_reducible apply Mt3.a7 (Nat.le_refl _) HAB.out HAC.out)
    clear HX a0 a1 a2 a3 a4 a5 a6 a7 b0 b1 b2 b3 b4 b5 b6 b7 f0 f1 f2 f3 f4 f5 f6 f7
    intro X hx
    have HX := Lib.hid hx
    obtain ⟨⟨⟨a0, a1, a2, a3, a4, a5, a6, a7⟩, f0, f1, f2, f3, f4, f5, f6, f7⟩, ⟨⟨b0, b1, b2, b3, b4, b5, b6, b7⟩, -⟩, -, -⟩ := hx
    simp only at a0 a1 a2 a3 a4 a5 a6 a7 b0 b1 b2 b3 b4 b5 b6 b7
    clear a0 a1 a2 a3 a6 a7 b0 b1 b2 b3 b6 b7 f0 f1 f2 f3 f6 f7 Kn Kb Ks
    go_cut [] (fun wx => Mt3 w w.heap.size (w.heap.size + 1) (w.heap.size + 1 + 1) ⟨N, Bad, s, c2, leastW Lo Lo2, mostW Hi Hi2, Me, Sp⟩ ⟨N2, Bad2, S2, L2, Lo2, Hi2, Me2, Sp2⟩ ⟨0, 0, 0, 0, 0, 0, 0, 0⟩ wx)
    case first =>
      refine wp_region_still_tail 11 (by kernel_rfl) (by kernel_rfl) ?_
      simp only [List.take_succ_cons, List.take_zero, List.drop_succ_cons, List.drop_zero]
      show wpStill _ _ X.drew (fun a' => wpList _ _ _ _ a' X.drew) _ _
      repeat (first | still_step | still_call ((Kl.out _).mono fun _ _ h => And.intro h.1 h.2.symm) | still_call ((Kh.out _).mono fun _ _ h => And.intro h.1 h.2.symm))
      try refine wpStill_nil ?_
      change wpList _ _ _ _ _ X.drew
      go_wp2_with fail
      go_meet
      repeat (first | with_reducible exact HX.out | with_reducible apply Mt3.drewN | with_reducible apply Mt3.drew | with_reducible apply Mt3.a0 (Nat.le_refl _) HAB.out HAC.out | with_reducible apply Mt3.a1 (Nat.le_refl _) HAB.out HAC.out | with_reducible apply Mt3.a2 (Nat.le_refl _) HAB.out HAC.out | with_reducible apply Mt3.a3 (Nat.le_refl _) HAB.out HAC.out | with_reducible apply Mt3.a4 (Nat.le_refl _) HAB.out HAC.out | with_reducible apply Mt3.a5 (Nat.le_refl _) HAB.out HAC.out | with_reducible apply Mt3.a6 (Nat.le_refl _) HAB.out HAC.out | with_reducible apply Mt3.a7 (Nat.le_refl _) HAB.out HAC.out)
    clear HX a4 a5 b4 b5 f4 f5
    case rest =>
      have hx := hcut
      clear hcut
      have HX := Lib.hid hx
      obtain ⟨⟨⟨a0, a1, a2, a3, a4, a5, a6, a7⟩, f0, f1, f2, f3, f4, f5, f6, f7⟩, ⟨⟨b0, b1, b2, b3, b4, b5, b6, b7⟩, -⟩, -, -⟩ := hx
      simp only at a0 a1 a2 a3 a4 a5 a6 a7 b0 b1 b2 b3 b4 b5 b6 b7
      have e3 := H3.out
      go_wp2_with fail
      refine arith_upon op_sub ?_
      rintro c3 k3 hc hb
      have Hc3 := Lib.hid hc; have Hb3 := Lib.hid hb; clear hc hb
      go_wp2_with fail
      refine arith_upon op_quo ?_
      rintro c4 k4 hc hb
      have Hc4 := Lib.hid hc; have Hb4 := Lib.hid hb; clear hc hb
      go_wp2_with fail
      refine arith_upon op_mul ?_
      rintro c5 k5 hc hb
      have Hc5 := Lib.hid hc; have Hb5 := Lib.hid hb; clear hc hb
      go_wp2_with fail
      refine arith_upon op_add ?_
      rintro c6 k6 hc hb
      have Hc6 := Lib.hid hc; have Hb6 := Lib.hid hb; clear hc hb
      clear e3
      go_upto_region 16 with (fail)
      refine wp_name (Mt3 w w.heap.size (w.heap.size + 1) (w.heap.size + 1 + 1) ⟨N, Bad, s, c2, leastW Lo Lo2, mostW Hi Hi2, c6, Sp⟩ ⟨N2, Bad2, S2, L2, Lo2, Hi2, Me2, Sp2⟩ ⟨0, 0, 0, 0, 0, 0, 0, 0⟩) ?_ ?_
      · repeat (first | with_reducible exact HX.out | with_reducible apply Mt3.drewN | with_reducible apply Mt3.drew | with_reducible apply Mt3.a0 (Nat.le_refl _) HAB.out HAC.out | with_reducible apply Mt3.a1 (Nat.le_refl _) HAB.out HAC.out | with_reducible apply Mt3.a2 (Nat.le_refl _) HAB.out HAC.out | with_reducible apply Mt3.a3 (Nat.le_refl _) HAB.out HAC.out | with_reducible apply Mt3.a4 (Nat.le_refl _) HAB.out HAC.out | with_reducible apply Mt3.a5 (Nat.le_refl _) HAB.out HAC.out | with_reducible apply Mt3.a6 (Nat.le_refl _) HAB.out HAC.out | with_reducible apply Mt3.a7 (Nat.le_refl _) HAB.out HAC.out)
      clear HX a0 a1 a2 a3 a4 a5 a6 a7 b0 b1 b2 b3 b4 b5 b6 b7 f0 f1 f2 f3 f4 f5 f6 f7
      intro X hx
      have HX := Lib.hid hx
      obtain ⟨⟨⟨a0, a1, a2, a3, a4, a5, a6, a7⟩, f0, f1, f2, f3, f4, f5, f6, f7⟩, ⟨⟨b0, b1, b2, b3, b4, b5, b6, b7⟩, -⟩, -, -⟩ := hx
      simp only at a0 a1 a2 a3 a4 a5 a6 a7 b0 b1 b2 b3 b4 b5 b6 b7
      go_wp2_with fail
      refine arith_upon op_add ?_
      rintro c7 k7 hc hb
      have Hc7 := Lib.hid hc; have Hb7 := Lib.hid hb; clear hc hb
      go_wp2_with fail
      refine arith_upon op_mul ?_
      rintro c8 k8 hc hb
      have Hc8 := Lib.hid hc; have Hb8 := Lib.hid hb; clear hc hb
      go_wp2_with fail
      refine arith_upon op_mul ?_
      rintro c9 k9 hc hb
      have Hc9 := Lib.hid hc; have Hb9 := Lib.hid hb; clear hc hb
      go_wp2_with fail
      refine arith_upon op_quo ?_
      rintro c10 k10 hc hb
      have Hc10 := Lib.hid hc; have Hb10 := Lib.hid hb; clear hc hb
      go_wp2_with fail
      refine arith_upon op_mul ?_
      rintro c11 k11 hc hb
      have Hc11 := Lib.hid hc; have Hb11 := Lib.hid hb; clear hc hb
      go_wp2_with fail
      refine arith_upon op_add ?_
      rintro c12 k12 hc hb
      have Hc12 := Lib.hid hc; have Hb12 := Lib.hid hb; clear hc hb
      go_upto_region 17 with (fail)
      refine wp_name (Mt3 w w.heap.size (w.heap.size + 1) (w.heap.size + 1 + 1) ⟨N, Bad, s, c2, leastW Lo Lo2, mostW Hi Hi2, c6, c12⟩ ⟨N2, Bad2, S2, L2, Lo2, Hi2, Me2, Sp2⟩ ⟨0, 0, 0, 0, 0, 0, 0, 0⟩) ?_ ?_
      · repeat (first | with_reducible exact HX.out | with_reducible apply Mt3.drewN | with_reducible apply Mt3.drew | with_reducible apply Mt3.a0 (Nat.le_refl _) HAB.out HAC.out | with_reducible apply Mt3.a1 (Nat.le_refl _) HAB.out HAC.out | with_reducible apply Mt3.a2 (Nat.le_refl _) HAB.out HAC.out | with_reducible apply Mt3.a3 (Nat.le_refl _) HAB.out HAC.out | with_reducible apply Mt3.a4 (Nat.le_refl _) HAB.out HAC.out | with_reducible apply Mt3.a5 (Nat.le_refl _) HAB.out HAC.out | with_reducible apply Mt3.a6 (Nat.le_refl _) HAB.out HAC.out | with_reducible apply Mt3.a7 (Nat.le_refl _) HAB.out HAC.out)
      clear HX a0 a1 a2 a3 a4 a5 a6 a7 b0 b1 b2 b3 b4 b5 b6 b7 f0 f1 f2 f3 f4 f5 f6 f7
      intro X hx
      have HX := Lib.hid hx
      obtain ⟨⟨⟨a0, a1, a2, a3, a4, a5, a6, a7⟩, f0, f1, f2, f3, f4, f5, f6, f7⟩, ⟨⟨b0, b1, b2, b3, b4, b5, b6, b7⟩, -⟩, -, -⟩ := hx
      simp only at a0 a1 a2 a3 a4 a5 a6 a7 b0 b1 b2 b3 b4 b5 b6 b7
      have e3 := H3.out
      go_upto_region 18 with (fail)
      clear e3
      refine wp_name (Mt3 w w.heap.size (w.heap.size + 1) (w.heap.size + 1 + 1) ⟨N + N2, Bad + Bad2, s, c2, leastW Lo Lo2, mostW Hi Hi2, c6, c12⟩ ⟨N2, Bad2, S2, L2, Lo2, Hi2, Me2, Sp2⟩ ⟨0, 0, 0, 0, 0, 0, 0, 0⟩) ?_ ?_
      · repeat (first | with_reducible exact HX.out | with_reducible apply Mt3.drewN | with_reducible apply Mt3.drew | with_reducible apply Mt3.a0 (Nat.le_refl _) HAB.out HAC.out | with_reducible apply Mt3.a1 (Nat.le_refl _) HAB.out HAC.out | with_reducible apply Mt3.a2 (Nat.le_refl _) HAB.out HAC.out | with_reducible apply Mt3.a3 (Nat.le_refl _) HAB.out HAC.out | with_reducible apply Mt3.a4 (Nat.le_refl _) HAB.out HAC.out | with_reducible apply Mt3.a5 (Nat.le_refl _) HAB.out HAC.out | with_reducible apply Mt3.a6 (Nat.le_refl _) HAB.out HAC.out | with_reducible apply Mt3.a7 (Nat.le_refl _) HAB.out HAC.out)
      clear HX a0 a1 a2 a3 a4 a5 a6 a7 b0 b1 b2 b3 b4 b5 b6 b7 f0 f1 f2 f3 f4 f5 f6 f7
      intro X hx
      have HX := Lib.hid hx
      obtain ⟨⟨⟨a0, a1, a2, a3, a4, a5, a6, a7⟩, f0, f1, f2, f3, f4, f5, f6, f7⟩, ⟨⟨b0, b1, b2, b3, b4, b5, b6, b7⟩, -⟩, -, -⟩ := hx
      simp only at a0 a1 a2 a3 a4 a5 a6 a7 b0 b1 b2 b3 b4 b5 b6 b7
      obtain ⟨-, -, ⟨⟨r0, r1, r2, r3, r4, r5, r6, r7⟩, g0, g1, g2, g3, g4, g5, g6, g7⟩, hbz⟩ := HX.out
      have Hbz := Lib.hid hbz
      clear hbz
      simp only at r0 r1 r2 r3 r4 r5 r6 r7
      go_wp2
      exact bodyPost_ret (v := .tuple #[.agg #[.int .i64 (N + N2), .int .i64 (Bad + Bad2), .float .f64 s, .float .f64 c2, .float .f64 (leastW Lo Lo2), .float .f64 (mostW Hi Hi2), .float .f64 c6, .float .f64 c12], .int .i64 0]) (by simp [results, Try.results31, go_sem, r0, r1, r2, r3, r4, r5, r6, r7]) rfl ⟨⟨N + N2, Bad + Bad2, s, c2, leastW Lo Lo2, mostW Hi Hi2, c6, c12⟩, rfl, merge_end Hs.out Hc2.out Hb3.out Hb4.out Hb5.out Hb7.out Hb8.out Hb9.out Hb10.out Hb11.out Hc3.out Hc4.out Hc5.out Hc6.out Hc7.out Hc8.out Hc9.out Hc10.out Hc11.out Hc12.out, ⟨Bs.out, Hb2.out, Ha.out, Hb.out, Hb6.out, Hb12.out⟩, by repeat (first | with_reducible exact Hbz.out | (with_reducible refine below_drewN ?_ _) | (with_reducible refine Below.setCell ?_ (by first | (simp; done) | (simp; omega)) _))⟩
end Go.Proofs.Ytecbbdbeihiioaa
