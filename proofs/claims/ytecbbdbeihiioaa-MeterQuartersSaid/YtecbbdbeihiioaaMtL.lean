/- The law's awake. -/
import Derived.Test.YtecbbdbeihiioaaMtK
namespace Go.Proofs.Ytecbbdbeihiioaa
open Go.RowKit
set_option linter.unusedVariables false

attribute [local go_sem] run_store_float'

theorem nf_word {c x : Nat} (h : nfW c = x) (hx : rg x ≤ 9218868437227405312) : c = x := by
  rcases nfW_cases c with ⟨h1, e⟩ | ⟨h1, e⟩
  · rw [e] at h; have := rg_QN; rw [h] at this; omega
  · rw [← h, e]

theorem awake_list : (foldM [4607182418800017408, 4611686018427387904]).N = 2 ∧ (foldM [4607182418800017408, 4611686018427387904]).S = 4613937818241073152 ∧ (foldM [4607182418800017408, 4611686018427387904]).Me = 4609434218613702656 ∧ (foldM [4607182418800017408, 4611686018427387904]).Sp = 4602678819172646912 := by
  refine ⟨?_, ?_, ?_, ?_⟩ <;> decide +kernel

theorem sort3 {L' : List Nat} (hp : L'.Perm [4613937818241073152, 4607182418800017408, 4611686018427387904]) (hs : Sorted L') : L'.getD 1 0 = 4611686018427387904 := by
  have hl := hp.length_eq
  match L', hl with
  | [x, y, z], _ =>
    have h01 : rk x ≤ rk y := hs 0 1 (by decide) (by simp)
    have h12 : rk y ≤ rk z := hs 1 2 (by decide) (by simp)
    have hx : x ∈ [4613937818241073152, 4607182418800017408, 4611686018427387904] := hp.mem_iff.1 (by simp)
    have hy : y ∈ [4613937818241073152, 4607182418800017408, 4611686018427387904] := hp.mem_iff.1 (by simp)
    have hz : z ∈ [4613937818241073152, 4607182418800017408, 4611686018427387904] := hp.mem_iff.1 (by simp)
    simp only [List.mem_cons, List.not_mem_nil, or_false] at hx hy hz
    clear hs
    rcases hx with rfl | rfl | rfl <;> rcases hy with rfl | rfl | rfl <;> rcases hz with rfl | rfl | rfl
    all_goals first
      | rfl
      | exact absurd hp (by decide)
      | exact absurd h01 (by decide +kernel)
      | exact absurd h12 (by decide +kernel)

theorem list3_words : ∀ x ∈ [4613937818241073152, 4607182418800017408, 4611686018427387904], x < 18446744073709551616 := by decide
theorem list2_words : ∀ x ∈ [4607182418800017408, 4611686018427387904], x < 18446744073709551616 := by decide

theorem awake_smooth (w : World) : Calls Try.prog 18 #[.float .f64 4621819117588971520, .float .f64 4626322717216342016, .float .f64 4598175219545276416] w fun e w' => e = .returned (.tuple #[.float .f64 4623226492472524800, .int .i64 0]) ∧ ∃ n, w' = w.drewN n := by
  have hr : smR 4621819117588971520 4626322717216342016 4598175219545276416 = 4623226492472524800 := by decide +kernel
  refine (smooth_core 4621819117588971520 4626322717216342016 4598175219545276416 (smR 4621819117588971520 4626322717216342016 4598175219545276416) 0 false false false false false false false w (by decide) (by decide) (by decide)
    (fun v => ?_) (fun v => ?_) (fun v => ?_) (by decide +kernel) (by decide +kernel) (by decide +kernel) (by decide +kernel) ?_).mono ?_
  · exact isnan_any _ v (by decide)
  · exact isnan_any _ v (by decide)
  · exact isnan_any _ v (by decide)
  · simp
  · rintro e w' ⟨c, n, rfl, hn, _, rfl⟩
    rw [hr] at hn
    rw [nf_word hn (by decide +kernel)]
    exact ⟨rfl, n, rfl⟩

theorem awake_quantile (v : Value) (w : World) (h : FlAt w v [4613937818241073152, 4607182418800017408, 4611686018427387904]) : Calls Try.prog 20 #[v, .float .f64 4602678819172646912] w fun e w' => e = .returned (.tuple #[.float .f64 4611686018427387904, .int .i64 0]) ∧ Below w.heap.size w w' := by
  refine (quantile_good v _ 4602678819172646912 4611686018427387904 4607182418800017408 1 4607182418800017408 0 w h (by decide) (by decide) (by decide) (by decide +kernel) (by decide +kernel) (by decide +kernel) (by decide +kernel)
    (by decide +kernel) (by decide +kernel) (by decide +kernel) (by decide) (by decide +kernel) (by decide +kernel)).mono ?_
  rintro e w' ⟨L', c, rfl, hp, hs, hn, _, hb⟩
  have e1 : quV L' 0 1 = nfW (L'.getD 1 0) := by unfold quV; rw [if_pos (Or.inl (by decide +kernel))]
  rw [e1, sort3 hp hs] at hn
  rw [nf_word (hn.trans (by decide +kernel : nfW 4611686018427387904 = 4611686018427387904)) (by decide +kernel)]
  exact ⟨rfl, hb⟩

end Go.Proofs.Ytecbbdbeihiioaa
