/- Contracts of spigotref05's Left and Wait. -/
import Derived.Test.YtdjiihcbaedmcaaGcraG
namespace Go.Proofs.Ytdjiihcbaedmcaa
open Go.RowKit

theorem decG_eq {T tau tat now n : Int} : decG T tau tat now n = decide (n ≤ leftI T tau tat now) := rfl

set_option maxHeartbeats 1000000 in
set_option maxRecDepth 100000 in
theorem rleft_any (T tau tat now : Int) (w : World) (h : limB T tau = true) (ht : tickB tat = true) (hn : tickB now = true) :
    Calls Try.prog 62 #[limV T tau, .int .i64 tat, .int .i64 now] w (IntRes w (leftI T tau tat now)) := by
  have hL := leftI_nonneg h ht hn
  have Hg := Lib.hid (fun n v hk => rgranted_any T tau tat now n v h ht hn hk)
  simp only [decG_eq] at Hg
  clear h ht hn
  generalize leftI T tau tat now = L at *
  obtain ⟨L0, L1⟩ := hL
  unfold limV at *
  go_enter Try.func62, Try.ntmps62
  go_wp2
  go_loopw [7, 8, 9] (fun lo hi _ wr => ∃ a b : Int, lo = .int .i64 a ∧ hi = .int .i64 b ∧ 0 ≤ a ∧ a ≤ L ∧ L ≤ b ∧ b ≤ 4611686018427387903 ∧ wr.cell? ⟨w.heap.size, 0, none⟩ = some (.int .i64 T) ∧ wr.cell? ⟨w.heap.size, 1, none⟩ = some (.int .i64 tau) ∧ Below w.heap.size w wr) (fun lo hi _ _ => (intOf hi - intOf lo).toNat)
  case atStart => exact ⟨0, 4611686018427387903, rfl, rfl, by omega, L0, L1, by omega, by simp [go_sem], by simp [go_sem], (Below.refl _ _).alloc (Nat.le_refl _) _⟩
  case round =>
    obtain ⟨a, b, rfl, rfl, ha, haL, hLb, hb, hc0, hc1, hbel⟩ := hrel
    have Hbel := Lib.hid hbel
    clear hbel
    by_cases hab : a < b
    · have hn0 : 0 ≤ b - (b - a) / 2 := by omega
      have hn1 : b - (b - a) / 2 ≤ 4611686018427387903 := by omega
      have hn2 : a < b - (b - a) / 2 := by omega
      have hn3 : b - (b - a) / 2 ≤ b := by omega
      have hn4 : 0 ≤ b - a := by omega
      have Hk := Lib.hid (fun v => Hg.out (b - (b - a) / 2) v (tickB_mk hn0 hn1))
      by_cases hm : b - (b - a) / 2 ≤ L
      · have hd : decide (b - (b - a) / 2 ≤ L) = true := decide_eq_true hm
        rw [hd] at Hk
        clear hd
        go_wp2_with fail
        refine (Hk.out _).mono ?_
        rintro e w1 ⟨rfl, hb1⟩
        have hc0' := cell_later hb1 hc0
        have hc1' := cell_later hb1 hc1
        have Hb1 := Lib.hid (Hbel.out.trans (hb1.mono Hbel.out.size))
        clear hb1 Hbel
        go_wp2
        go_roundw
        case rel => exact ⟨_, _, rfl, rfl, hn0, hm, hLb, hb, hc0', hc1', Hb1.out⟩
        case measure => simp [intOf]; omega
      · have hd : decide (b - (b - a) / 2 ≤ L) = false := decide_eq_false hm
        rw [hd] at Hk
        clear hd
        go_wp2_with fail
        refine (Hk.out _).mono ?_
        rintro e w1 ⟨rfl, hb1⟩
        have hc0' := cell_later hb1 hc0
        have hc1' := cell_later hb1 hc1
        have Hb1 := Lib.hid (Hbel.out.trans (hb1.mono Hbel.out.size))
        clear hb1 Hbel
        go_wp2
        go_roundw
        case rel => exact ⟨_, _, rfl, rfl, ha, haL, by omega, by omega, hc0', hc1', Hb1.out⟩
        case measure => simp [intOf]; omega
    · obtain rfl : a = L := by omega
      go_wp2
      go_ret
      exact ⟨rfl, Hbel.out⟩

/-! ### the wait: plain laws -/

/-- When is the cost granted at a later clock, where tat is not behind? -/
theorem wait_law {T tau tat now n : Int} (h : limB T tau = true) (ht : tickB tat = true) (hnow : tickB now = true) (hn : tickB n = true) (hd : ¬ n ≤ leftI T tau tat now) :
    (decG T tau tat (max now tat) n = false → waitI T tau tat now n = 4611686018427387903) ∧
    (decG T tau tat (max now tat) n = true → 0 < waitI T tau tat now n ∧ waitI T tau tat now n ≤ max now tat - now ∧ ∀ x, 0 ≤ x → x ≤ max now tat - now → (decG T tau tat (now + x) n = true ↔ waitI T tau tat now n ≤ x)) := by
  obtain ⟨h1, h2, h3⟩ := limB_yes h
  have a1 := tickB_yes h1; have a3 := tickB_yes h3
  have b1 := tickB_yes ht; have b2 := tickB_yes hnow; have b3 := tickB_yes hn
  have hmax : tickB (max now tat) = true := tickB_mk (by omega) (by omega)
  have hn1 : n ≠ 0 := by intro hz; subst hz; exact hd (leftI_nonneg h ht hnow).1
  have hg0 : ¬ grantP T tau tat now n := fun hg => hd ((left_grant h ht hnow b3.1).2 hg)
  have hm0 : 0 ≤ (n - 1) * T := Int.mul_nonneg (by omega) (by omega)
  have hnT : n * T = (n - 1) * T + T := by rw [Int.sub_mul]; omega
  have hdiv : n ≤ (4611686018427387903 - max tat now) / T ↔ n * T ≤ 4611686018427387903 - max tat now := Int.le_ediv_iff_mul_le (by omega)
  have hw : waitI T tau tat now n = if aheadB T tau n = false ∨ (4611686018427387903 - max tat now) / T < n then 4611686018427387903 else tat - now - (tau - (n - 1) * T) := rfl
  have ha : aheadB T tau n = decide ((n - 1) * T ≤ tau) := rfl
  have hG : ∀ c, tickB c = true → (decG T tau tat c n = true ↔ (max tat c + (n - 1) * T ≤ c + tau ∧ max tat c + n * T ≤ 4611686018427387903)) := by
    intro c hc
    rw [decG_eq, decide_eq_true_iff, left_grant h ht hc b3.1]
    unfold grantP
    constructor
    · rintro (h | h)
      · exact absurd h hn1
      · exact h
    · exact Or.inr
  unfold grantP at hg0
  have hmm := hG _ hmax
  rw [show max tat (max now tat) = max tat now by omega] at hmm
  constructor
  · intro hf
    rw [hw, if_pos]
    by_cases hx : (n - 1) * T ≤ tau
    · right
      have : ¬ (max tat now + (n - 1) * T ≤ max now tat + tau ∧ max tat now + n * T ≤ 4611686018427387903) := fun hh => by rw [hmm.2 hh] at hf; simp at hf
      omega
    · left; rw [ha]; exact decide_eq_false hx
  · intro hf
    have hmp := hmm.1 hf
    have hx : (n - 1) * T ≤ tau := by omega
    have hv : waitI T tau tat now n = tat - now - (tau - (n - 1) * T) := by
      rw [hw, if_neg]
      rw [ha, decide_eq_true hx]
      simp
      omega
    rw [hv]
    refine ⟨by omega, by omega, fun x x0 x1 => ?_⟩
    rw [hG (now + x) (tickB_mk (by omega) (by omega))]
    omega

set_option maxHeartbeats 2000000 in
set_option maxRecDepth 100000 in
theorem rwait_any (T tau tat now n : Int) (w : World) (h : limB T tau = true) (ht : tickB tat = true) (hnow : tickB now = true) (hn : tickB n = true) (hd : ¬ n ≤ leftI T tau tat now) :
    Calls Try.prog 74 #[limV T tau, .int .i64 tat, .int .i64 now, .int .i64 n] w (IntRes w (waitI T tau tat now n)) := by
  obtain ⟨hf, hy⟩ := wait_law h ht hnow hn hd
  have t0 := (tickB_yes ht).1; have t1 := (tickB_yes ht).2
  have w0 := (tickB_yes hnow).1; have w1 := (tickB_yes hnow).2
  have Hg := Lib.hid (fun c v hc => rgranted_any T tau tat c n v h ht hc hn)
  have hG0 : decG T tau tat now n = false := decide_eq_false hd
  have hG0' := Lib.hid hG0
  have Hf := Lib.hid hf; have Hy := Lib.hid hy
  clear hf hy hG0 hd h hn ht hnow
  generalize waitI T tau tat now n = W at *
  unfold limV at *
  by_cases hm : tat ≤ now
  · have hmx : max now tat = now := by omega
    have hW : W = 4611686018427387903 := Hf.out (by rw [hmx]; exact hG0'.out)
    subst hW
    have Hk := Lib.hid (fun v => Hg.out now v (tickB_mk w0 w1))
    rw [hG0'.out] at Hk
    clear hmx Hf Hy Hg
    have hm' : ¬ now < tat := by omega
    go_enter Try.func74, Try.ntmps74
    go_wp2_with fail
    refine (Hk.out _).mono ?_
    rintro e w1 ⟨rfl, hb1⟩
    have Hb1 := Lib.hid (below_past hb1)
    clear hb1
    go_wp2
    go_ret
    exact ⟨rfl, Hb1.out⟩
  · have hmx : max now tat = tat := by omega
    have hm' : now < tat := by omega
    have Hk := Lib.hid (fun v => Hg.out tat v (tickB_mk t0 t1))
    rw [hmx] at Hf Hy
    clear hmx hm
    cases hgr : decG T tau tat tat n with
    | false =>
      have hW : W = 4611686018427387903 := Hf.out hgr
      subst hW
      rw [hgr] at Hk
      clear Hf Hy Hg hgr
      go_enter Try.func74, Try.ntmps74
      go_wp2_with fail
      refine (Hk.out _).mono ?_
      rintro e w1 ⟨rfl, hb1⟩
      have Hb1 := Lib.hid (below_past hb1)
      clear hb1
      go_wp2
      go_ret
      exact ⟨rfl, Hb1.out⟩
    | true =>
      obtain ⟨W0, W1, hx⟩ := Hy.out hgr
      have Hx := Lib.hid hx
      rw [hgr] at Hk
      clear Hf Hy hgr hx
      go_enter Try.func74, Try.ntmps74
      go_wp2_with fail
      refine (Hk.out _).mono ?_
      rintro e wk ⟨rfl, hb1⟩
      have hc0 := cell_later hb1 (a := ⟨w.heap.size, 0, none⟩) (v := .int .i64 T) (by simp [go_sem])
      have hc1 := cell_later hb1 (a := ⟨w.heap.size, 1, none⟩) (v := .int .i64 tau) (by simp [go_sem])
      have Hb1 := Lib.hid (below_past hb1)
      clear hb1 Hk
      go_wp2
      go_loopw [9, 10, 11] (fun lo hi _ wr => ∃ a b : Int, lo = .int .i64 a ∧ hi = .int .i64 b ∧ 0 ≤ a ∧ a ≤ W ∧ W ≤ b ∧ b ≤ tat - now ∧ wr.cell? ⟨w.heap.size, 0, none⟩ = some (.int .i64 T) ∧ wr.cell? ⟨w.heap.size, 1, none⟩ = some (.int .i64 tau) ∧ Below w.heap.size w wr) (fun lo hi _ _ => (intOf hi - intOf lo).toNat)
      case atStart => exact ⟨0, tat - now, rfl, rfl, by omega, by omega, W1, by omega, hc0, hc1, Hb1.out⟩
      case round =>
        clear hc0 hc1 Hb1
        obtain ⟨a, b, rfl, rfl, ha, haL, hLb, hb, hc0, hc1, hbel⟩ := hrel
        have Hbel := Lib.hid hbel
        clear hbel
        by_cases hab : a < b
        · have hn4 : 0 ≤ b - a := by omega
          have hn0 : 0 ≤ a + (b - a) / 2 := by omega
          have hn1 : a + (b - a) / 2 < b := by omega
          have Hkk := Lib.hid (fun v => Hg.out (now + (a + (b - a) / 2)) v (tickB_mk (by omega) (by omega)))
          have hxx := Hx.out (a + (b - a) / 2) hn0 (by omega)
          by_cases hmid : W ≤ a + (b - a) / 2
          · rw [hxx.2 hmid] at Hkk
            clear hxx
            go_wp2_with fail
            refine (Hkk.out _).mono ?_
            rintro e w1 ⟨rfl, hb1⟩
            have hc0' := cell_later hb1 hc0
            have hc1' := cell_later hb1 hc1
            have Hb1 := Lib.hid (Hbel.out.trans (hb1.mono Hbel.out.size))
            clear hb1 Hbel
            go_wp2
            go_roundw
            case rel => exact ⟨_, _, rfl, rfl, ha, haL, hmid, by omega, hc0', hc1', Hb1.out⟩
            case measure => simp [intOf]; omega
          · rw [Bool.eq_false_iff.2 (fun hh => hmid (hxx.1 hh))] at Hkk
            clear hxx
            go_wp2_with fail
            refine (Hkk.out _).mono ?_
            rintro e w1 ⟨rfl, hb1⟩
            have hc0' := cell_later hb1 hc0
            have hc1' := cell_later hb1 hc1
            have Hb1 := Lib.hid (Hbel.out.trans (hb1.mono Hbel.out.size))
            clear hb1 Hbel
            go_wp2
            go_roundw
            case rel => exact ⟨_, _, rfl, rfl, by omega, by omega, hLb, hb, hc0', hc1', Hb1.out⟩
            case measure => simp [intOf]; omega
        · obtain rfl : a = W := by omega
          go_wp2
          go_ret
          exact ⟨rfl, Hbel.out⟩

end Go.Proofs.Ytdjiihcbaedmcaa
