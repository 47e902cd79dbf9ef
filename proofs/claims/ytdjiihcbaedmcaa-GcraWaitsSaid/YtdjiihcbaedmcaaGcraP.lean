/- Plain laws of the generic cell rate algorithm; no program's run in this text. -/
import Derived.Test.YtdjiihcbaedmcaaGcraH
namespace Go.Proofs.Ytdjiihcbaedmcaa
open Go.RowKit

/-- A cost in two parts at one clock. -/
theorem parts_law {T tau tat now p q : Int} (h : limB T tau = true) (ht : tickB tat = true) (hnow : tickB now = true) (hp : tickB p = true) (hq : tickB q = true) :
    decG T tau tat now (p + q) = (decG T tau tat now p && decG T tau (decTat T tau tat now p) now q) ∧
    (decG T tau tat now (p + q) = true → decTat T tau tat now (p + q) = decTat T tau (decTat T tau tat now p) now q) := by
  obtain ⟨h1, h2, h3⟩ := limB_yes h
  have a1 := tickB_yes h1; have a3 := tickB_yes h3
  have b1 := tickB_yes ht; have b2 := tickB_yes hnow; have b3 := tickB_yes hp; have b4 := tickB_yes hq
  have hT' := dec_tick h ht hnow hp
  have lw := left_grant h ht hnow (n := p + q) (by omega)
  have lp := left_grant h ht hnow (n := p) b3.1
  have ls := left_grant h hT' hnow (n := q) b4.1
  have hTv : decTat T tau tat now p = if p ≤ leftI T tau tat now ∧ 0 < p then max tat now + p * T else tat := rfl
  unfold grantP at lw lp ls
  have e1 : (p + q) * T = p * T + q * T := Int.add_mul p q T
  have e2 : (p + q - 1) * T = p * T + (q - 1) * T := by rw [← Int.add_mul]; congr 1; omega
  have e3 : (p - 1) * T = p * T - T := by rw [Int.sub_mul]; omega
  have e4 : (q - 1) * T = q * T - T := by rw [Int.sub_mul]; omega
  have e5 : 0 ≤ p * T := Int.mul_nonneg b3.1 (by omega)
  have e6 : 0 ≤ q * T := Int.mul_nonneg b4.1 (by omega)
  have e7 : 0 < p → T ≤ p * T := fun h => by have := Int.mul_le_mul_of_nonneg_right (show 1 ≤ p by omega) (show 0 ≤ T by omega); omega
  have e8 : 0 < q → T ≤ q * T := fun h => by have := Int.mul_le_mul_of_nonneg_right (show 1 ≤ q by omega) (show 0 ≤ T by omega); omega
  have e9 : p = 0 → p * T = 0 := fun h => by rw [h, Int.zero_mul]
  have e10 : q = 0 → q * T = 0 := fun h => by rw [h, Int.zero_mul]
  rw [e1, e2, e4] at lw
  rw [e3] at lp
  rw [e4] at ls
  have hG : decG T tau tat now (p + q) = (decG T tau tat now p && decG T tau (decTat T tau tat now p) now q) := by
    rw [decG_eq, decG_eq, decG_eq, Bool.eq_iff_iff, Bool.and_eq_true, decide_eq_true_iff, decide_eq_true_iff, decide_eq_true_iff]
    by_cases hg : p ≤ leftI T tau tat now
    · by_cases hz : 0 < p
      · rw [hTv, if_pos ⟨hg, hz⟩] at ls ⊢
        rw [lw, ls]
        have := lp.1 hg
        have := e7 hz
        constructor
        · intro hh
          refine ⟨hg, ?_⟩
          by_cases hq0 : q = 0
          · exact Or.inl hq0
          · right; omega
        · rintro ⟨_, hh⟩
          right
          by_cases hq0 : q = 0
          · have := e10 hq0; omega
          · have := e8 (by omega); omega
      · rw [hTv, if_neg (by omega)] at ls ⊢
        have hp0 : p = 0 := by omega
        subst hp0
        rw [Int.zero_add]
        exact ⟨fun hh => ⟨hg, hh⟩, fun hh => hh.2⟩
    · constructor
      · intro hh
        exfalso
        apply hg
        rw [lp]
        have hh2 := lw.1 hh
        right
        by_cases hq0 : q = 0
        · have := e10 hq0; omega
        · have := e8 (by omega); omega
      · intro hh; exact absurd hh.1 hg
  refine ⟨hG, fun hy => ?_⟩
  rw [hG, Bool.and_eq_true] at hy
  have hy1 : p ≤ leftI T tau tat now := of_decide_eq_true hy.1
  have hy2 : q ≤ leftI T tau (decTat T tau tat now p) now := of_decide_eq_true hy.2
  have hy0 : p + q ≤ leftI T tau tat now := by
    have : decG T tau tat now (p + q) = true := by rw [hG, hy.1, hy.2]; rfl
    exact of_decide_eq_true this
  have w1 : decTat T tau tat now (p + q) = if p + q ≤ leftI T tau tat now ∧ 0 < p + q then max tat now + (p + q) * T else tat := rfl
  have w2 : decTat T tau (decTat T tau tat now p) now q = if q ≤ leftI T tau (decTat T tau tat now p) now ∧ 0 < q then max (decTat T tau tat now p) now + q * T else decTat T tau tat now p := rfl
  rw [w1, w2, e1]
  clear w1 w2 hG lw lp ls
  generalize decTat T tau tat now p = X at *
  by_cases hz : 0 < p
  · have hX : X = max tat now + p * T := by rw [hTv, if_pos ⟨hy1, hz⟩]
    have := e7 hz
    by_cases hq0 : 0 < q
    · rw [if_pos ⟨hy0, by omega⟩, if_pos ⟨hy2, hq0⟩]; omega
    · have := e10 (by omega)
      rw [if_pos ⟨hy0, by omega⟩, if_neg (by omega)]; omega
  · have hX : X = tat := by rw [hTv, if_neg (by omega)]
    have := e9 (by omega)
    by_cases hq0 : 0 < q
    · rw [if_pos ⟨hy0, by omega⟩, if_pos ⟨hy2, hq0⟩]; omega
    · rw [if_neg (by omega), if_neg (by omega)]; omega

/-- What is idle decides as if nothing had ever been granted. -/
theorem idle_law {T tau tat c n : Int} (h : limB T tau = true) (ht : tickB tat = true) (hc : tickB c = true) (hn : tickB n = true) (hi : tat ≤ c) :
    decG T tau tat c n = decG T tau 0 c n ∧ decWait T tau tat c n = decWait T tau 0 c n ∧ decLeft T tau tat c n = decLeft T tau 0 c n ∧
    (decG T tau tat c n = true → 0 < n → decTat T tau tat c n = decTat T tau 0 c n) := by
  obtain ⟨h1, h2, h3⟩ := limB_yes h
  have a1 := tickB_yes h1; have a3 := tickB_yes h3
  have b1 := tickB_yes ht; have b2 := tickB_yes hc; have b3 := tickB_yes hn
  have m1 : max tat c = c := by omega
  have m2 : max 0 c = c := by omega
  have hl : leftI T tau tat c = leftI T tau 0 c := by unfold leftI; rw [m1, m2]
  have hG : decG T tau tat c n = decG T tau 0 c n := by rw [decG_eq, decG_eq, hl]
  have wt : ∀ t, tickB t = true → t ≤ c → ¬ n ≤ leftI T tau t c → waitI T tau t c n = 4611686018427387903 := by
    intro t ht htc hd
    refine (wait_law h ht hc hn hd).1 ?_
    rw [show max c t = c by omega]
    exact decide_eq_false hd
  have hTat : decTat T tau tat c n = (if n ≤ leftI T tau tat c ∧ 0 < n then c + n * T else tat) := by unfold decTat; rw [m1]
  have hTat0 : decTat T tau 0 c n = (if n ≤ leftI T tau tat c ∧ 0 < n then c + n * T else 0) := by unfold decTat; rw [m2, ← hl]
  refine ⟨hG, ?_, ?_, ?_⟩
  · unfold decWait
    rw [← hl]
    by_cases hd : n ≤ leftI T tau tat c
    · rw [if_pos hd, if_pos hd]
    · rw [if_neg hd, if_neg hd, wt tat ht hi hd, wt 0 (by decide) (by omega) (by rw [← hl]; exact hd)]
  · unfold decLeft
    rw [hTat, hTat0]
    by_cases hd : n ≤ leftI T tau tat c ∧ 0 < n
    · rw [if_pos hd, if_pos hd]
    · rw [if_neg hd, if_neg hd, hl]
  · intro hg hz
    rw [hTat, hTat0, if_pos ⟨of_decide_eq_true hg, hz⟩, if_pos ⟨of_decide_eq_true hg, hz⟩]

theorem dec_grown {T tau tat now n : Int} (h : limB T tau = true) (ht : tickB tat = true) (hnow : tickB now = true) (hg : decG T tau tat now n = true) (hz : 0 < n) : 1 ≤ decTat T tau tat now n := by
  obtain ⟨h1, h2, h3⟩ := limB_yes h
  have b1 := tickB_yes ht; have b2 := tickB_yes hnow
  unfold decTat
  rw [if_pos ⟨of_decide_eq_true hg, hz⟩]
  have := Int.mul_le_mul_of_nonneg_right (show 1 ≤ n by omega) (show 0 ≤ T by omega)
  omega

/-- The wait that is told is exact. -/
theorem waits_law {T tau tat now n : Int} (h : limB T tau = true) (ht : tickB tat = true) (hnow : tickB now = true) (hn : tickB n = true) :
    (decG T tau tat now n = true → decWait T tau tat now n = 0) ∧
    (decG T tau tat now n = false → decTat T tau tat now n = tat ∧
      ((decWait T tau tat now n = 4611686018427387903 ∧ decG T tau tat (max now tat) n = false ∧ decG T tau tat 4611686018427387903 n = false) ∨
       (0 < decWait T tau tat now n ∧ decWait T tau tat now n < 4611686018427387903 ∧ decWait T tau tat now n ≤ 4611686018427387903 - now ∧
        decG T tau tat (now + decWait T tau tat now n) n = true ∧ decG T tau tat (now + decWait T tau tat now n - 1) n = false))) := by
  obtain ⟨h1, h2, h3⟩ := limB_yes h
  have a1 := tickB_yes h1; have a3 := tickB_yes h3
  have b1 := tickB_yes ht; have b2 := tickB_yes hnow; have b3 := tickB_yes hn
  constructor
  · intro hg
    unfold decWait
    rw [if_pos (of_decide_eq_true hg)]
  · intro hg
    have hd : ¬ n ≤ leftI T tau tat now := of_decide_eq_false hg
    have hW : decWait T tau tat now n = waitI T tau tat now n := if_neg hd
    have hTat : decTat T tau tat now n = tat := if_neg (fun hh => hd hh.1)
    refine ⟨hTat, ?_⟩
    rw [hW]
    obtain ⟨hf, hy⟩ := wait_law h ht hnow hn hd
    have hmax : tickB (max now tat) = true := tickB_mk (by omega) (by omega)
    have hn1 : 1 ≤ n := by
      have := (leftI_nonneg h ht hnow).1
      omega
    have hnT : T ≤ n * T := by have := Int.mul_le_mul_of_nonneg_right hn1 (show 0 ≤ T by omega); omega
    have hend : decG T tau tat 4611686018427387903 n = false := by
      rw [decG_eq]
      refine decide_eq_false fun hh => ?_
      have := (left_grant h ht (show tickB 4611686018427387903 = true by decide) b3.1).1 hh
      unfold grantP at this
      omega
    cases hgm : decG T tau tat (max now tat) n with
    | false => exact Or.inl ⟨hf hgm, rfl, hend⟩
    | true =>
      right
      obtain ⟨w0, w1, wx⟩ := hy hgm
      have hgp := (left_grant h ht hmax b3.1).1 (of_decide_eq_true hgm)
      unfold grantP at hgp
      have x1 := (wx (waitI T tau tat now n) (by omega) w1).2 (Int.le_refl _)
      have x2 := wx (waitI T tau tat now n - 1) (by omega) (by omega)
      refine ⟨w0, by omega, by omega, x1, ?_⟩
      rw [show now + waitI T tau tat now n - 1 = now + (waitI T tau tat now n - 1) by omega]
      rw [Bool.eq_false_iff]
      intro hh
      have := x2.1 hh
      omega

end Go.Proofs.Ytdjiihcbaedmcaa
