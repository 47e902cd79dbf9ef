/- Contracts of gcra.decide, check, Decide, Left, Idle and of rate.Within, Once. -/
import Derived.Test.YtdjiihcbaedmcaaGcraA
namespace Go.Proofs.Ytdjiihcbaedmcaa
open Go.RowKit

theorem bcell {W w1 : World} (hb : Below W.heap.size W w1) : (∀ b o, b < W.heap.size → w1.cell? ⟨b, o, none⟩ = W.cell? ⟨b, o, none⟩) ∧ (∀ b o, b < W.heap.size → w1.frozen? ⟨b, o, none⟩ = W.frozen? ⟨b, o, none⟩) :=
  ⟨fun b o h => hb.cell (p := ⟨b, o, none⟩) h, fun b o h => hb.frozen (p := ⟨b, o, none⟩) h⟩

/-- An answer as a value. -/
def ansV (g : Bool) (tat wait left : Int) : Value := .agg #[.bool g, .int .i64 tat, .int .i64 wait, .int .i64 left]

def decG (T tau tat now n : Int) : Bool := decide (n ≤ leftI T tau tat now)
def decTat (T tau tat now n : Int) : Int := if n ≤ leftI T tau tat now ∧ 0 < n then max tat now + n * T else tat
def decWait (T tau tat now n : Int) : Int := if n ≤ leftI T tau tat now then 0 else waitI T tau tat now n
def decLeft (T tau tat now n : Int) : Int := leftI T tau (decTat T tau tat now n) now

/-! ### plain laws -/

theorem leftI_nonneg {T tau tat now : Int} (h : limB T tau = true) (ht : tickB tat = true) (hn : tickB now = true) : 0 ≤ leftI T tau tat now ∧ leftI T tau tat now ≤ 4611686018427387903 := by
  obtain ⟨h1, h2, h3⟩ := limB_yes h
  have b1 := tickB_yes ht; have b2 := tickB_yes hn; have b3 := tickB_yes h3
  unfold leftI leftB
  split
  · omega
  · obtain ⟨x0, x1, _, _⟩ := div_tick (a := tau - (max tat now - now)) (b := T) (by omega) (by omega)
    obtain ⟨y0, y1, _, _⟩ := div_tick (a := 4611686018427387903 - max tat now) (b := T) (by omega) (by omega)
    omega

/-- The rule by its own words. -/
def grantP (T tau tat now n : Int) : Prop := n = 0 ∨ (max tat now + (n - 1) * T ≤ now + tau ∧ max tat now + n * T ≤ 4611686018427387903)

theorem left_grant {T tau tat now n : Int} (h : limB T tau = true) (ht : tickB tat = true) (hn : tickB now = true) (h0 : 0 ≤ n) : n ≤ leftI T tau tat now ↔ grantP T tau tat now n := by
  obtain ⟨h1, h2, h3⟩ := limB_yes h
  have b1 := tickB_yes ht; have b2 := tickB_yes hn; have b3 := tickB_yes h3
  have hl := leftI_nonneg h ht hn
  unfold grantP
  by_cases hz : n = 0
  · subst hz; simp [hl.1]
  · unfold leftI leftB
    split
    · rename_i hd
      have : 0 ≤ (n - 1) * T := Int.mul_nonneg (by omega) (by omega)
      constructor
      · omega
      · rintro (h | ⟨h, _⟩) <;> omega
    · rename_i hd
      have e1 : n - 1 ≤ (tau - (max tat now - now)) / T ↔ (n - 1) * T ≤ tau - (max tat now - now) := Int.le_ediv_iff_mul_le (by omega)
      have e2 : n ≤ (4611686018427387903 - max tat now) / T ↔ n * T ≤ 4611686018427387903 - max tat now := Int.le_ediv_iff_mul_le (by omega)
      omega

theorem dec_tick {T tau tat now n : Int} (h : limB T tau = true) (ht : tickB tat = true) (hn : tickB now = true) (h0 : tickB n = true) : tickB (decTat T tau tat now n) = true := by
  obtain ⟨h1, h2, h3⟩ := limB_yes h
  unfold decTat
  split
  · rename_i hd
    have := (left_grant h ht hn (tickB_yes h0).1).1 hd.1
    have b1 := tickB_yes ht; have b2 := tickB_yes hn
    have : 0 ≤ n * T := Int.mul_nonneg (by omega) (by omega)
    unfold grantP at *
    exact tickB_mk (by omega) (by omega)
  · exact ht

def AnsRes (w : World) (g : Bool) (tat wait left : Int) (e : Ending) (w' : World) : Prop := e = .returned (ansV g tat wait left) ∧ Below w.heap.size w w'

set_option maxHeartbeats 2000000 in
set_option maxRecDepth 100000 in
theorem gdecide_any (T tau tat now n : Int) (w : World) (h : limB T tau = true) (ht : tickB tat = true) (hnow : tickB now = true) (hn : tickB n = true) :
    Calls Try.prog 57 #[limV T tau, .int .i64 tat, .int .i64 now, .int .i64 n] w (AnsRes w (decG T tau tat now n) (decTat T tau tat now n) (decWait T tau tat now n) (decLeft T tau tat now n)) := by
  have hdt := dec_tick h ht hnow hn
  have hll := leftI_nonneg h ht hnow
  have hlg := left_grant h ht hnow (tickB_yes hn).1
  have Hl1 := Lib.hid (fun v => gleft_any T tau tat now v h ht hnow)
  have Hl2 := Lib.hid (fun v => gleft_any T tau (decTat T tau tat now n) now v h hdt hnow)
  have n0 := (tickB_yes hn).1; have n1 := (tickB_yes hn).2
  obtain ⟨t0, t1⟩ := tickB_yes ht
  obtain ⟨w0, w1'⟩ := tickB_yes hnow
  by_cases hg : n ≤ leftI T tau tat now
  · by_cases hz : 0 < n
    · have hG : decG T tau tat now n = true := decide_eq_true hg
      have hT : decTat T tau tat now n = max tat now + n * T := if_pos ⟨hg, hz⟩
      have hW : decWait T tau tat now n = 0 := if_pos hg
      have hL : decLeft T tau tat now n = leftI T tau (max tat now + n * T) now := by unfold decLeft; rw [hT]
      have hgr := hlg.1 hg
      unfold grantP at hgr
      have hmul : 0 ≤ n * T := Int.mul_nonneg n0 (by have := (limB_yes h).2.1; omega)
      rw [hT] at Hl2
      rw [hG, hT, hW, hL]
      have hmx : 0 ≤ max tat now := by omega
      have hm2 : n * T ≤ 4611686018427387903 := by omega
      have hsum : max tat now + n * T ≤ 4611686018427387903 := by omega
      generalize leftI T tau tat now = L1 at *
      generalize leftI T tau (max tat now + n * T) now = L2 at *
      clear hG hT hW hL hgr hlg hdt
      unfold limV at *
      by_cases hm : tat < now
      · have hmx2 : max tat now = now := by omega
        rw [hmx2] at Hl2 hsum
        rw [hmx2]
        clear hmx2 hmx h ht hnow hn
        go_enter Try.func57, Try.ntmps57
        go_wp2_with fail
        refine (Hl1.out _).mono ?_
        rintro e w1 ⟨rfl, hb⟩
        obtain ⟨hc, hf⟩ := bcell hb
        have hz1 : w.heap.size + 1 < w1.heap.size := by have := hb.size; simp at this; omega
        have hz0 : w.heap.size < w1.heap.size := by omega
        go_wp2_with fail
        refine (Hl2.out _).mono ?_
        rintro e w2 ⟨rfl, hb2⟩
        obtain ⟨hc2, hf2⟩ := bcell hb2
        have hz2 : w1.heap.size < w2.heap.size := by have := hb2.size; simp at this; omega
        have Hb : Hid (Below w.heap.size w w2) := (below_past (below_past hb)).trans ((below_past hb2).mono (by omega))
        clear hb hb2 Hl1 Hl2
        go_wp2
        exact bodyPost_ret (v := ansV true (now + n * T) 0 L2) (by simp [results, Try.results57, go_sem, ansV, hc2, hc, hz0, hz1]) rfl ⟨rfl, by repeat (first | exact Hb.out | (refine Below.setCell ?_ (by first | (simp; done) | (simp; omega)) _))⟩
      · have hmx2 : max tat now = tat := by omega
        rw [hmx2] at Hl2 hsum
        rw [hmx2]
        clear hmx2 hmx h ht hnow hn
        go_enter Try.func57, Try.ntmps57
        go_wp2_with fail
        refine (Hl1.out _).mono ?_
        rintro e w1 ⟨rfl, hb⟩
        obtain ⟨hc, hf⟩ := bcell hb
        have hz1 : w.heap.size + 1 < w1.heap.size := by have := hb.size; simp at this; omega
        have hz0 : w.heap.size < w1.heap.size := by omega
        go_wp2_with fail
        refine (Hl2.out _).mono ?_
        rintro e w2 ⟨rfl, hb2⟩
        obtain ⟨hc2, hf2⟩ := bcell hb2
        have hz2 : w1.heap.size < w2.heap.size := by have := hb2.size; simp at this; omega
        have Hb : Hid (Below w.heap.size w w2) := (below_past (below_past hb)).trans ((below_past hb2).mono (by omega))
        clear hb hb2 Hl1 Hl2
        go_wp2
        exact bodyPost_ret (v := ansV true (tat + n * T) 0 L2) (by simp [results, Try.results57, go_sem, ansV, hc2, hc, hz0, hz1]) rfl ⟨rfl, by repeat (first | exact Hb.out | (refine Below.setCell ?_ (by first | (simp; done) | (simp; omega)) _))⟩
    · obtain rfl : n = 0 := by omega
      have hG : decG T tau tat now 0 = true := decide_eq_true hg
      have hT : decTat T tau tat now 0 = tat := if_neg (by omega)
      have hW : decWait T tau tat now 0 = 0 := if_pos hg
      have hL : decLeft T tau tat now 0 = leftI T tau tat now := by unfold decLeft; rw [hT]
      rw [hT] at Hl2
      rw [hG, hT, hW, hL]
      generalize leftI T tau tat now = L1 at *
      clear hG hT hW hL hlg hdt hz h ht hnow hn
      unfold limV at *
      go_enter Try.func57, Try.ntmps57
      go_wp2_with fail
      refine (Hl1.out _).mono ?_
      rintro e w1 ⟨rfl, hb⟩
      obtain ⟨hc, hf⟩ := bcell hb
      have hz1 : w.heap.size + 1 < w1.heap.size := by have := hb.size; simp at this; omega
      have hz0 : w.heap.size < w1.heap.size := by omega
      go_wp2_with fail
      refine (Hl2.out _).mono ?_
      rintro e w2 ⟨rfl, hb2⟩
      obtain ⟨hc2, hf2⟩ := bcell hb2
      have hz2 : w1.heap.size < w2.heap.size := by have := hb2.size; simp at this; omega
      have Hb : Hid (Below w.heap.size w w2) := (below_past (below_past hb)).trans ((below_past hb2).mono (by omega))
      clear hb hb2 Hl1 Hl2
      go_wp2
      exact bodyPost_ret (v := ansV true tat 0 L1) (by simp [results, Try.results57, go_sem, ansV, hc2, hc, hz0, hz1]) rfl ⟨rfl, by repeat (first | exact Hb.out | (refine Below.setCell ?_ (by first | (simp; done) | (simp; omega)) _))⟩
  · have hn1 : 1 ≤ n := by omega
    have Hw := Lib.hid (fun v => gwait_any T tau tat now n v h ht hnow hn hn1)
    have hG : decG T tau tat now n = false := decide_eq_false hg
    have hT : decTat T tau tat now n = tat := if_neg (by omega)
    have hW : decWait T tau tat now n = waitI T tau tat now n := if_neg hg
    have hL : decLeft T tau tat now n = leftI T tau tat now := by unfold decLeft; rw [hT]
    rw [hT] at Hl2
    rw [hG, hT, hW, hL]
    generalize leftI T tau tat now = L1 at *
    generalize waitI T tau tat now n = W1 at *
    have hgd : decide (n ≤ L1) = false := decide_eq_false hg
    clear hG hT hW hL hlg hdt h ht hnow hn
    unfold limV at *
    go_enter Try.func57, Try.ntmps57
    go_wp2_with fail
    refine (Hl1.out _).mono ?_
    rintro e w1 ⟨rfl, hb⟩
    obtain ⟨hc, hf⟩ := bcell hb
    have hz1 : w.heap.size + 1 < w1.heap.size := by have := hb.size; simp at this; omega
    have hz0 : w.heap.size < w1.heap.size := by omega
    go_wp2_with fail
    refine (Hw.out _).mono ?_
    rintro e w1a ⟨rfl, hba⟩
    obtain ⟨hca, hfa⟩ := bcell hba
    have hza : w1.heap.size < w1a.heap.size := by have := hba.size; simp at this; omega
    have hza1 : w.heap.size + 1 < w1a.heap.size := by omega
    go_wp2_with fail
    refine (Hl2.out _).mono ?_
    rintro e w2 ⟨rfl, hb2⟩
    obtain ⟨hc2, hf2⟩ := bcell hb2
    have hz2 : w1a.heap.size ≤ w2.heap.size := by have := hb2.size; simp at this; omega
    have Hb : Hid (Below w.heap.size w w2) := ((below_past (below_past hb)).trans ((below_past hba).mono (by omega))).trans ((((Below.refl _ _).setCell (by simp; omega) _).trans (hb2.mono (by simp; omega))))
    clear hb hba hb2 Hl1 Hl2 Hw
    go_wp2
    exact bodyPost_ret (v := ansV false tat W1 L1) (by simp [results, Try.results57, go_sem, ansV, hc2, hca, hc, hz0, hz1, hza1]) rfl ⟨rfl, by repeat (first | exact Hb.out | (refine Below.setCell ?_ (by first | (simp; done) | (simp; omega)) _))⟩

end Go.Proofs.Ytdjiihcbaedmcaa
