/- Contract of the law's made. -/
import Derived.Test.YtecbbdbeihiioaaMtM
import Derived.Deep.RegionHeld3
import Derived.BigRegion
namespace Go.Proofs.Ytecbbdbeihiioaa
open Go.RowKit
set_option linter.unusedVariables false

attribute [local go_sem] run_store_float'

/-- Figures as a value: a meter's, floats as their bits. -/
def figV (m : Mt) : Value := .agg #[.int .i64 m.N, .int .i64 m.Bad, .int .u64 (m.S : Int), .int .u64 (m.L : Int), .int .u64 (m.Lo : Int), .int .u64 (m.Hi : Int), .int .u64 (m.Me : Int), .int .u64 (m.Sp : Int)]

def FgRel (w0 : World) (B : Nat) (m : Mt) (w : World) : Prop :=
  w.cell? ⟨B, 0, none⟩ = some (.int .i64 m.N) ∧ w.cell? ⟨B, 1, none⟩ = some (.int .i64 m.Bad) ∧ w.cell? ⟨B, 2, none⟩ = some (.int .u64 (m.S : Int)) ∧ w.cell? ⟨B, 3, none⟩ = some (.int .u64 (m.L : Int)) ∧ w.cell? ⟨B, 4, none⟩ = some (.int .u64 (m.Lo : Int)) ∧ w.cell? ⟨B, 5, none⟩ = some (.int .u64 (m.Hi : Int)) ∧ w.cell? ⟨B, 6, none⟩ = some (.int .u64 (m.Me : Int)) ∧ w.cell? ⟨B, 7, none⟩ = some (.int .u64 (m.Sp : Int)) ∧ Below w0.heap.size w0 w

set_option maxRecDepth 100000 in
set_option maxHeartbeats 16000000 in
theorem made_any (N Bad : Int) (S L Lo Hi Me Sp : Nat) (w : World) :
    Calls Try.prog 26 #[figV ⟨N, Bad, S, L, Lo, Hi, Me, Sp⟩] w fun e w' => e = .returned (.tuple #[mtV ⟨N, Bad, S, L, Lo, Hi, Me, Sp⟩, mtV ⟨N, Bad, S, L, Lo, Hi, Me, Sp⟩]) ∧ Below w.heap.size w w' := by
  have K := Lib.hid (fun b v => of_any b v)
  unfold figV mtV
  go_enter Try.func26, Try.ntmps26
  go_wp2_with fail
  obtain ⟨W, hW⟩ : ∃ W, W = ((w.alloc (.cells #[.int .i64 N, .int .i64 Bad, .int .u64 (S : Int), .int .u64 (L : Int), .int .u64 (Lo : Int), .int .u64 (Hi : Int), .int .u64 (Me : Int), .int .u64 (Sp : Int)] 55)).alloc (.cells #[.int .i64 0, .int .i64 0, .float .f64 0, .float .f64 0, .float .f64 0, .float .f64 0, .float .f64 0, .float .f64 0] 28)).alloc (.cells #[.int .i64 0, .int .i64 0, .float .f64 0, .float .f64 0, .float .f64 0, .float .f64 0, .float .f64 0, .float .f64 0] 32) := ⟨_, rfl⟩
  rw [← hW]
  have hs0 : (fun w' : World => w'.cell? ⟨w.heap.size, 0, none⟩ = some (.int .i64 N) ∧ w'.cell? ⟨w.heap.size, 1, none⟩ = some (.int .i64 Bad) ∧ w'.cell? ⟨w.heap.size, 2, none⟩ = some (.int .u64 (S : Int)) ∧ w'.cell? ⟨w.heap.size, 3, none⟩ = some (.int .u64 (L : Int)) ∧ w'.cell? ⟨w.heap.size, 4, none⟩ = some (.int .u64 (Lo : Int)) ∧ w'.cell? ⟨w.heap.size, 5, none⟩ = some (.int .u64 (Hi : Int)) ∧ w'.cell? ⟨w.heap.size, 6, none⟩ = some (.int .u64 (Me : Int)) ∧ w'.cell? ⟨w.heap.size, 7, none⟩ = some (.int .u64 (Sp : Int)) ∧ Below W.heap.size W w') W := by
    rw [hW]
    refine ⟨?_, ?_, ?_, ?_, ?_, ?_, ?_, ?_, Below.refl _ _⟩ <;> simp [go_sem]
  have Hs0 := Lib.hid hs0
  have hl : ∀ w', Below W.heap.size W w' → w'.cell? ⟨w.heap.size, 0, none⟩ = some (.int .i64 N) ∧ w'.cell? ⟨w.heap.size, 1, none⟩ = some (.int .i64 Bad) ∧ w'.cell? ⟨w.heap.size, 2, none⟩ = some (.int .u64 (S : Int)) ∧ w'.cell? ⟨w.heap.size, 3, none⟩ = some (.int .u64 (L : Int)) ∧ w'.cell? ⟨w.heap.size, 4, none⟩ = some (.int .u64 (Lo : Int)) ∧ w'.cell? ⟨w.heap.size, 5, none⟩ = some (.int .u64 (Hi : Int)) ∧ w'.cell? ⟨w.heap.size, 6, none⟩ = some (.int .u64 (Me : Int)) ∧ w'.cell? ⟨w.heap.size, 7, none⟩ = some (.int .u64 (Sp : Int)) ∧ Below W.heap.size W w' := fun w' hb => by
    obtain ⟨g0, g1, g2, g3, g4, g5, g6, g7, _⟩ := hs0
    exact ⟨cell_later hb g0, cell_later hb g1, cell_later hb g2, cell_later hb g3, cell_later hb g4, cell_later hb g5, cell_later hb g6, cell_later hb g7, hb⟩
  have Hl := Lib.hid hl
  have hr1 : MtCell W (w.heap.size + 1) ⟨0, 0, 0, 0, 0, 0, 0, 0⟩ := by
    rw [hW]
    unfold MtCell
    refine ⟨⟨?_, ?_, ?_, ?_, ?_, ?_, ?_, ?_⟩, ?_, ?_, ?_, ?_, ?_, ?_, ?_, ?_⟩ <;> simp [go_sem]
  have hr2 : MtCell W (w.heap.size + 1 + 1) ⟨0, 0, 0, 0, 0, 0, 0, 0⟩ := by
    rw [hW]
    unfold MtCell
    refine ⟨⟨?_, ?_, ?_, ?_, ?_, ?_, ?_, ?_⟩, ?_, ?_, ?_, ?_, ?_, ?_, ?_, ?_⟩ <;> simp [go_sem]
  have hsz : W.heap.size = w.heap.size + 3 := by rw [hW]; simp
  have hbW : Below w.heap.size w W := by
    rw [hW]
    exact (((Below.refl _ _).alloc (Nat.le_refl _) _).alloc (by simp) _).alloc (by simp; omega) _
  have hX : ∃ X, X = (W.alloc (.cells #[.int .i64 N, .int .i64 Bad, .float .f64 S, .float .f64 L, .float .f64 Lo, .float .f64 Hi, .float .f64 Me, .float .f64 Sp] 28)).drew := ⟨_, rfl⟩
  obtain ⟨X, hX⟩ := hX
  have hbX : Below W.heap.size W X := by rw [hX]; exact ((Below.refl _ _).alloc (Nat.le_refl _) _).drew
  have hx0 : MtCell X W.heap.size ⟨N, Bad, S, L, Lo, Hi, Me, Sp⟩ := by rw [hX]; exact mtCell_alloc W ⟨N, Bad, S, L, Lo, Hi, Me, Sp⟩ _
  have hx1 := hr1.later (by omega) hbX
  have hx2 := hr2.later (by omega) hbX
  have HX := Lib.hid hX
  have HbX := Lib.hid (hbW.trans (hbX.mono hbW.size))
  have Hx0 := Lib.hid hx0; have Hx1 := Lib.hid hx1; have Hx2 := Lib.hid hx2
  clear hX hbX hx0 hx1 hx2
  have Hr1 := Lib.hid hr1; have Hr2 := Lib.hid hr2; have Hsz := Lib.hid hsz; have HbW := Lib.hid hbW
  clear hs0 hl hr1 hr2 hsz hbW hW
  go_region_held3 (fun w' => w'.cell? ⟨w.heap.size, 0, none⟩ = some (.int .i64 N) ∧ w'.cell? ⟨w.heap.size, 1, none⟩ = some (.int .i64 Bad) ∧ w'.cell? ⟨w.heap.size, 2, none⟩ = some (.int .u64 (S : Int)) ∧ w'.cell? ⟨w.heap.size, 3, none⟩ = some (.int .u64 (L : Int)) ∧ w'.cell? ⟨w.heap.size, 4, none⟩ = some (.int .u64 (Lo : Int)) ∧ w'.cell? ⟨w.heap.size, 5, none⟩ = some (.int .u64 (Hi : Int)) ∧ w'.cell? ⟨w.heap.size, 6, none⟩ = some (.int .u64 (Me : Int)) ∧ w'.cell? ⟨w.heap.size, 7, none⟩ = some (.int .u64 (Sp : Int)) ∧ Below W.heap.size W w') (first | exact Hs0.out | (refine Hl.out _ ?_; repeat (first | with_reducible exact Below.refl _ _ | (with_reducible refine Below.drew ?_) | (with_reducible refine below_drewN ?_ _) | (with_reducible refine Below.setCell ?_ (by simp) _) | (with_reducible refine Below.alloc ?_ (by simp) _)))) (first | (go_at_call 16; (with_reducible refine (K.out _ _).mono ?_); rintro e w' ⟨rfl, rfl⟩))
  all_goals
    rw [← HX.out]
    obtain ⟨⟨a0, a1, a2, a3, a4, a5, a6, a7⟩, _⟩ := Hx0.out
    obtain ⟨⟨r0, r1, r2, r3, r4, r5, r6, r7⟩, f0, f1, f2, f3, f4, f5, f6, f7⟩ := Hx1.out
    obtain ⟨⟨q0, q1, q2, q3, q4, q5, q6, q7⟩, g0, g1, g2, g3, g4, g5, g6, g7⟩ := Hx2.out
    have hn1 : W.heap.size ≠ w.heap.size + 1 := by have := Hsz.out; omega
    have hn2 : W.heap.size ≠ w.heap.size + 1 + 1 := by have := Hsz.out; omega
    simp only at a0 a1 a2 a3 a4 a5 a6 a7 r0 r1 r2 r3 r4 r5 r6 r7 q0 q1 q2 q3 q4 q5 q6 q7
    clear HX Hx0 Hx1 Hx2 Hs0 Hl Hr1 Hr2 Hsz HbW
    go_wp2_with fail
    go_region
    all_goals
      go_wp2_with fail
      exact bodyPost_ret (v := .tuple #[.agg #[.int .i64 N, .int .i64 Bad, .float .f64 S, .float .f64 L, .float .f64 Lo, .float .f64 Hi, .float .f64 Me, .float .f64 Sp], .agg #[.int .i64 N, .int .i64 Bad, .float .f64 S, .float .f64 L, .float .f64 Lo, .float .f64 Hi, .float .f64 Me, .float .f64 Sp]]) (by simp [results, Try.results26, go_sem, r0, r1, r2, r3, r4, r5, r6, r7, q0, q1, q2, q3, q4, q5, q6, q7]) rfl ⟨rfl, by repeat (first | with_reducible exact HbX.out | (with_reducible refine Below.drew ?_) | (with_reducible refine below_drewN ?_ _) | (with_reducible refine Below.setCell ?_ (by first | (simp; done) | (simp; omega)) _))⟩
end Go.Proofs.Ytecbbdbeihiioaa
