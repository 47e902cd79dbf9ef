/- Plain laws of meters that are one up to a NaN's bits. No walk in this text. -/
import Derived.Test.YtecbbdbeihiioaaMtG
namespace Go.Proofs.Ytecbbdbeihiioaa
open Go.RowKit
set_option linter.unusedVariables false

theorem fA_lt {op : BinOp} (x y : Nat) : fA op x y < 18446744073709551616 := by
  unfold fA
  cases h : floatBits op .f64 x y with
  | some r => have := floatBits_wf h; simpa [Lit.wf] using this
  | none => exact (by decide : QN < 18446744073709551616)

theorem lossA_lt (a b : Nat) : lossA a b < 18446744073709551616 := by
  unfold lossA lossS
  repeat' split
  all_goals first | exact fA_lt _ _ | decide

theorem addM_ok {m : Mt} {x : Nat} (hm : m.Ok) (hx : x < 18446744073709551616) : (addM m x).Ok := by
  unfold addM
  split
  · exact hm
  · obtain ⟨h1, h2, h3, h4, h5, h6⟩ := hm
    refine ⟨fA_lt _ _, ?_, leastW_lt h3 hx, mostW_lt h4 hx, fA_lt _ _, fA_lt _ _⟩
    show (if finA m.S x = true then fA .add m.L (lossA m.S x) else m.L) < _
    split
    · exact fA_lt _ _
    · exact h2

theorem nan_nf {a b : Nat} (h : nfW a = nfW b) : (9218868437227405312 < rg a) ↔ (9218868437227405312 < rg b) := by
  have q := rg_QN
  rcases nfW_cases a with ⟨h1, e1⟩ | ⟨h1, e1⟩ <;> rcases nfW_cases b with ⟨h2, e2⟩ | ⟨h2, e2⟩
  · exact ⟨fun _ => h2, fun _ => h1⟩
  · rw [e1, e2] at h; rw [h] at q; exact absurd q (by omega)
  · rw [e1, e2] at h; rw [← h] at q; exact absurd q (by omega)
  · exact ⟨fun h => absurd h (by omega), fun h => absurd h (by omega)⟩

theorem least_sim {a b x : Nat} (ha : a < 18446744073709551616) (hb : b < 18446744073709551616) (h : nfW a = nfW b) : nfW (leastW a x) = nfW (leastW b x) := by
  have hr := (nfW_rk ha hb).1 h
  unfold leastW
  rw [hr]
  split
  · exact h
  · rfl
theorem most_sim {a b x : Nat} (ha : a < 18446744073709551616) (hb : b < 18446744073709551616) (h : nfW a = nfW b) : nfW (mostW a x) = nfW (mostW b x) := by
  have hr := (nfW_rk ha hb).1 h
  have hn := nan_nf h
  unfold mostW
  rw [hr]
  by_cases c : 9218868437227405312 < rg a
  · have c' := hn.1 c
    simp only [c, c', true_or, and_true]
    split
    · rfl
    · exact h
  · have c' : ¬ 9218868437227405312 < rg b := fun h => c (hn.2 h)
    simp only [c, c', false_or]
    split
    · rfl
    · exact h

theorem fin_left {a x : Nat} (ha : a < 18446744073709551616) (h : finA a x = true) : rg a ≤ 9218868437227405312 := by
  refine Decidable.byContradiction fun hn => ?_
  have h1 := of_decide_eq_true h
  rw [fb_none op_add (fb_left op_add ha (by omega))] at h1
  have := rg_QN
  omega

theorem mtMe_sim {a b : Mt} {x : Nat} (ha : a.Ok) (hb : b.Ok) (hx : x < 18446744073709551616) (hN : a.N = b.N) (hM : nfW a.Me = nfW b.Me) : mtMe a x = mtMe b x := by
  have h1 : fA .sub x a.Me = fA .sub x b.Me := fA_same op_sub hx ha.2.2.2.2.1 hx hb.2.2.2.2.1 rfl hM
  unfold mtMe
  rw [h1, hN]
  exact fA_same op_add ha.2.2.2.2.1 (fA_lt _ _) hb.2.2.2.2.1 (fA_lt _ _) hM rfl

/-- Meters that are one stay so with one number more. -/
theorem addM_sim {a b : Mt} {x : Nat} (ha : a.Ok) (hb : b.Ok) (hx : x < 18446744073709551616) (h : mtSim a b) : mtSim (addM a x) (addM b x) := by
  obtain ⟨e1, e2, h1, h2, h3, h4, h5, h6⟩ := h
  unfold addM
  by_cases hn : 9218868437227405312 < rg x
  · rw [if_pos hn, if_pos hn]
    exact ⟨e1, by show wrap64 (a.Bad + 1) = wrap64 (b.Bad + 1); rw [e2], h1, h2, h3, h4, h5, h6⟩
  · rw [if_neg hn, if_neg hn]
    obtain ⟨a1, a2, a3, a4, a5, a6⟩ := ha
    obtain ⟨b1, b2, b3, b4, b5, b6⟩ := hb
    have hS : fA .add a.S x = fA .add b.S x := fA_same op_add a1 hx b1 hx h1 rfl
    have hF : finA a.S x = finA b.S x := by unfold finA; rw [hS]
    have hM := mtMe_sim ⟨a1, a2, a3, a4, a5, a6⟩ ⟨b1, b2, b3, b4, b5, b6⟩ hx e1 h5
    have hd : fA .sub x a.Me = fA .sub x b.Me := fA_same op_sub hx a5 hx b5 rfl h5
    refine ⟨?_, e2, ?_, ?_, least_sim a3 b3 h3, most_sim a4 b4 h4, ?_, ?_⟩
    · show wrap64 (a.N + 1) = wrap64 (b.N + 1); rw [e1]
    · show nfW (fA .add a.S x) = nfW (fA .add b.S x); rw [hS]
    · show nfW (if finA a.S x = true then fA .add a.L (lossA a.S x) else a.L) = nfW (if finA b.S x = true then fA .add b.L (lossA b.S x) else b.L)
      by_cases hf : finA a.S x = true
      · have hf' : finA b.S x = true := by rw [← hF]; exact hf
        have hab : a.S = b.S := by
          rw [← nfW_id (fin_left a1 hf), ← nfW_id (fin_left b1 hf'), h1]
        rw [if_pos hf, if_pos hf', hab]
        rw [fA_same op_add a2 (lossA_lt _ _) b2 (lossA_lt _ _) h2 rfl]
      · have hf' : ¬ finA b.S x = true := by rw [← hF]; exact hf
        rw [if_neg hf, if_neg hf']
        exact h2
    · show nfW (mtMe a x) = nfW (mtMe b x); rw [hM]
    · show nfW (fA .add a.Sp (fA .mul (fA .sub x a.Me) (fA .sub x (mtMe a x)))) = nfW (fA .add b.Sp (fA .mul (fA .sub x b.Me) (fA .sub x (mtMe b x))))
      rw [hd, hM]
      rw [fA_same op_add a6 (fA_lt _ _) b6 (fA_lt _ _) h6 rfl]

theorem mt0_ok : mt0.Ok := by unfold mt0 Mt.Ok; decide

/-- Of a list. -/
def foldM (L : List Nat) : Mt := L.foldl addM mt0
theorem foldM_ok {L : List Nat} (h : ∀ x ∈ L, x < 18446744073709551616) : (foldM L).Ok := by
  have : ∀ (L : List Nat) (m : Mt), m.Ok → (∀ x ∈ L, x < 18446744073709551616) → (L.foldl addM m).Ok := by
    intro L
    induction L with
    | nil => exact fun m hm _ => hm
    | cons x t ih => exact fun m hm hL => ih _ (addM_ok hm (hL x (by simp))) (fun y hy => hL y (by simp [hy]))
  exact this L mt0 mt0_ok h
theorem foldM_take {L : List Nat} {k : Nat} (h : k < L.length) : foldM (L.take (k + 1)) = addM (foldM (L.take k)) (L.getD k 0) := by
  unfold foldM
  rw [List.take_add_one, List.foldl_append, List.getElem?_eq_getElem h, List.getD_eq_getElem?_getD, List.getElem?_eq_getElem h]
  rfl

/-- A slice of floats. -/
def FlAt (w : World) (v : Value) (L : List Nat) : Prop :=
  (∀ x ∈ L, x < 18446744073709551616) ∧ ∃ a c, v = .slice a L.length c ∧ L.length ≤ c ∧ c ≤ maxLen ∧
    (0 < L.length → ∃ b off, a = some ⟨b, off, none⟩ ∧ ∀ j, j < L.length → w.cell? ⟨b, off + j, none⟩ = some (.float .f64 (L.getD j 0)))
theorem FlAt.later {w w' : World} {v : Value} {L : List Nat} (h : FlAt w v L) (hb : Below w.heap.size w w') : FlAt w' v L := by
  obtain ⟨h0, a, c, rfl, hl, hc, hr⟩ := h
  refine ⟨h0, a, c, rfl, hl, hc, fun hp => ?_⟩
  obtain ⟨b, off, rfl, hcell⟩ := hr hp
  exact ⟨b, off, rfl, fun j hj => cell_later hb (hcell j hj)⟩
theorem getD_lt {L : List Nat} (h : ∀ x ∈ L, x < 18446744073709551616) (k : Nat) : L.getD k 0 < 18446744073709551616 := by
  rw [List.getD_eq_getElem?_getD]
  cases hk : L[k]? with
  | none => decide
  | some x => exact h x (List.mem_of_getElem? hk)
end Go.Proofs.Ytecbbdbeihiioaa
