/- The law's awake, walked. -/
import Derived.Test.YtecbbdbeihiioaaMtL
namespace Go.Proofs.Ytecbbdbeihiioaa
open Go.RowKit
set_option linter.unusedVariables false

attribute [local go_sem] run_store_float'

theorem flat_lit (w : World) (L : List Nat) (h : ∀ x ∈ L, x < 18446744073709551616) (hl : L.length ≤ 4096) (t : TypeId) : FlAt (w.alloc (.cells (L.map fun x => Value.float .f64 x).toArray t)) (.slice (some ⟨w.heap.size, 0, none⟩) L.length L.length) L := by
  refine ⟨h, _, _, rfl, Nat.le_refl _, by unfold maxLen; omega, fun hp => ⟨w.heap.size, 0, rfl, fun j hj => ?_⟩⟩
  have hs : j < ((L.map fun x => Value.float .f64 x).toArray).size := by simpa using hj
  rw [Nat.zero_add, List.getD_eq_getElem?_getD, List.getElem?_eq_getElem hj]
  simp [go_sem, hj]

theorem flat2 (w : World) (t : TypeId) : FlAt (w.alloc (.cells #[.float .f64 4607182418800017408, .float .f64 4611686018427387904] t)) (.slice (some ⟨w.heap.size, 0, none⟩) 2 2) [4607182418800017408, 4611686018427387904] := flat_lit w [4607182418800017408, 4611686018427387904] list2_words (by decide) t
theorem flat3 (w : World) (t : TypeId) : FlAt (w.alloc (.cells #[.float .f64 4613937818241073152, .float .f64 4607182418800017408, .float .f64 4611686018427387904] t)) (.slice (some ⟨w.heap.size, 0, none⟩) 3 3) [4613937818241073152, 4607182418800017408, 4611686018427387904] := flat_lit w [4613937818241073152, 4607182418800017408, 4611686018427387904] list3_words (by decide) t

/-- Of at the awake's list. -/
theorem awake_of (w : World) (t : TypeId) : Calls Try.prog 13 #[.slice (some ⟨w.heap.size, 0, none⟩) 2 2] (w.alloc (.cells #[.float .f64 4607182418800017408, .float .f64 4611686018427387904] t)) fun e w' =>
    ∃ Bad L Lo Hi, e = .returned (.tuple #[.agg #[.int .i64 2, .int .i64 Bad, .float .f64 4613937818241073152, .float .f64 L, .float .f64 Lo, .float .f64 Hi, .float .f64 4609434218613702656, .float .f64 4602678819172646912], .int .i64 0]) ∧ Below w.heap.size w w' := by
  refine (mof_some _ _ _ (flat2 w t) (by decide)).mono ?_
  rintro e w1 ⟨m, rfl, hsim, hok, hb⟩
  obtain ⟨a1, a2, a3, a4⟩ := awake_list
  obtain ⟨N, Bad, S, Lx, Lo, Hi, Me, Sp⟩ := m
  obtain ⟨e1, e2, e3, e4, e5, e6, e7, e8⟩ := hsim
  simp only at e1 e3 e7 e8
  rw [a1] at e1
  rw [a2] at e3
  rw [a3] at e7
  rw [a4] at e8
  have q1 : nfW 4613937818241073152 = 4613937818241073152 := by decide +kernel
  have q2 : nfW 4609434218613702656 = 4609434218613702656 := by decide +kernel
  have q3 : nfW 4602678819172646912 = 4602678819172646912 := by decide +kernel
  rw [q1] at e3
  rw [q2] at e7
  rw [q3] at e8
  rw [nf_word e3 (by decide +kernel), nf_word e7 (by decide +kernel), nf_word e8 (by decide +kernel), e1]
  exact ⟨Bad, Lx, Lo, Hi, rfl, below_past hb⟩

set_option maxRecDepth 100000 in
set_option maxHeartbeats 8000000 in
theorem awake8 (w : World) : Calls Try.prog 11 #[] w fun e w' => e = .returned (.bool true) ∧ Below w.heap.size w w' := by
  have K1 := Lib.hid (fun w t => awake_of w t)
  have K2 := Lib.hid (fun v => awake_smooth v)
  have K3 := Lib.hid (fun w t => awake_quantile _ _ (flat3 w t))
  have o1 : (FloatKind.f64.format.order 4613937818241073152 4613937818241073152 == some .eq) = true := by decide +kernel
  have o2 : (FloatKind.f64.format.order 4609434218613702656 4609434218613702656 == some .eq) = true := by decide +kernel
  have o3 : (FloatKind.f64.format.order 4602678819172646912 4602678819172646912 == some .eq) = true := by decide +kernel
  have o4 : (FloatKind.f64.format.order 4623226492472524800 4623226492472524800 == some .eq) = true := by decide +kernel
  have o5 : (FloatKind.f64.format.order 4611686018427387904 4611686018427387904 == some .eq) = true := by decide +kernel
  go_enter Try.func11, Try.ntmps11
  go_wp2_with fail
  with_reducible refine (K1.out _ _).mono ?_
  rintro e w1 ⟨Bad, Lx, Lo, Hi, rfl, hb⟩
  have Hb1 := Lib.hid hb
  clear hb
  go_wp2_with fail
  with_reducible refine (K2.out _).mono ?_
  rintro e w2 ⟨rfl, n2, rfl⟩
  obtain ⟨W, hW⟩ : ∃ W, W = (w1.alloc (.cells #[.int .i64 2, .int .i64 Bad, .float .f64 4613937818241073152, .float .f64 Lx, .float .f64 Lo, .float .f64 Hi, .float .f64 4609434218613702656, .float .f64 4602678819172646912] 28)).drewN n2 := ⟨_, rfl⟩
  rw [← hW]
  have hz : w1.heap.size < W.heap.size := by rw [hW]; show w1.heap.size < (w1.alloc _).heap.size; simp
  have c0 : W.cell? ⟨w1.heap.size, 0, none⟩ = some (.int .i64 2) := by rw [hW]; simp [go_sem]
  have c2 : W.cell? ⟨w1.heap.size, 2, none⟩ = some (.float .f64 4613937818241073152) := by rw [hW]; simp [go_sem]
  have c6 : W.cell? ⟨w1.heap.size, 6, none⟩ = some (.float .f64 4609434218613702656) := by rw [hW]; simp [go_sem]
  have c7 : W.cell? ⟨w1.heap.size, 7, none⟩ = some (.float .f64 4602678819172646912) := by rw [hW]; simp [go_sem]
  have hbW : Below w.heap.size w W := by rw [hW]; exact below_drewN (Hb1.out.alloc Hb1.out.size _) _
  have HbW := Lib.hid hbW
  clear hW hbW
  go_wp2_with fail
  with_reducible refine (K3.out _ _).mono ?_
  rintro e w3 ⟨rfl, hb3⟩
  obtain ⟨hc, hf⟩ := bcell (below_past hb3)
  have d0 := (hc w1.heap.size 0 hz).trans c0
  have d2 := (hc w1.heap.size 2 hz).trans c2
  have d6 := (hc w1.heap.size 6 hz).trans c6
  have d7 := (hc w1.heap.size 7 hz).trans c7
  have Hb3 := Lib.hid (HbW.out.trans ((below_past hb3).mono HbW.out.size))
  clear hc hf hb3 c0 c2 c6 c7
  go_wp2
  go_ret
  exact ⟨rfl, Hb3.out⟩
end Go.Proofs.Ytecbbdbeihiioaa
