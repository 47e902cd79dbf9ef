/- Contracts of spigotref05's Decide, right, DocDecide, DocLeft, DocIdle and spigotref04.Check. -/
import Derived.Test.YtdjiihcbaedmcaaGcraH
namespace Go.Proofs.Ytdjiihcbaedmcaa
open Go.RowKit

set_option maxHeartbeats 2000000 in
set_option maxRecDepth 100000 in
theorem rdecide_any (T tau tat now n : Int) (w : World) (h : limB T tau = true) (ht : tickB tat = true) (hnow : tickB now = true) (hn : tickB n = true) :
    Calls Try.prog 59 #[limV T tau, .int .i64 tat, .int .i64 now, .int .i64 n] w (AnsRes w (decG T tau tat now n) (decTat T tau tat now n) (decWait T tau tat now n) (decLeft T tau tat now n)) := by
  have hdt := dec_tick h ht hnow hn
  have hll := leftI_nonneg h ht hnow
  have hlg := left_grant h ht hnow (tickB_yes hn).1
  have Hl1 := Lib.hid (fun v => rgranted_any T tau tat now n v h ht hnow hn)
  have Hl2 := Lib.hid (fun v => rleft_any T tau (decTat T tau tat now n) now v h hdt hnow)
  have n0 := (tickB_yes hn).1; have n1 := (tickB_yes hn).2
  obtain ⟨t0, t1⟩ := tickB_yes ht
  obtain ⟨w0, w1'⟩ := tickB_yes hnow
  by_cases hg : n ≤ leftI T tau tat now
  · by_cases hz : 0 < n
    · have hG : decG T tau tat now n = true := decide_eq_true hg
      have hT : decTat T tau tat now n = max tat now + n * T := if_pos ⟨hg, hz⟩
      have hW : decWait T tau tat now n = 0 := if_pos hg
      have hL : decLeft T tau tat now n = leftI T tau (max tat now + n * T) now := by unfold decLeft; rw [hT]
      have hgr := hlg.1 hg
      unfold grantP at hgr
      have hmul : 0 ≤ n * T := Int.mul_nonneg n0 (by have := (limB_yes h).2.1; omega)
      rw [hT] at Hl2
      rw [hG] at Hl1
      rw [hG, hT, hW, hL]
      have hmx : 0 ≤ max tat now := by omega
      have hm2 : n * T ≤ 4611686018427387903 := by omega
      have hsum : max tat now + n * T ≤ 4611686018427387903 := by omega
      generalize leftI T tau tat now = L1 at *
      generalize leftI T tau (max tat now + n * T) now = L2 at *
      clear hG hT hW hL hgr hlg hdt
      unfold limV at *
      by_cases hm : tat < now
      · have hmx2 : max tat now = now := by omega
        rw [hmx2] at Hl2 hsum
        rw [hmx2]
        clear hmx2 hmx h ht hnow hn
        go_enter Try.func59, Try.ntmps59
        go_wp2_with fail
        refine (Hl1.out _).mono ?_
        rintro e w1 ⟨rfl, hb⟩
        obtain ⟨hc, hf⟩ := bcell hb
        have hz1 : w.heap.size + 1 < w1.heap.size := by have := hb.size; simp at this; omega
        have hz0 : w.heap.size < w1.heap.size := by omega
        go_wp2_with fail
        refine (Hl2.out _).mono ?_
        rintro e w2 ⟨rfl, hb2⟩
        obtain ⟨hc2, hf2⟩ := bcell hb2
        have hz2 : w1.heap.size < w2.heap.size := by have := hb2.size; simp at this; omega
        have Hb : Hid (Below w.heap.size w w2) := (below_past (below_past hb)).trans ((below_past hb2).mono (by omega))
        clear hb hb2 Hl1 Hl2
        go_wp2
        exact bodyPost_ret (v := ansV true (now + n * T) 0 L2) (by simp [results, Try.results59, go_sem, ansV, hc2, hc, hz0, hz1]) rfl ⟨rfl, by repeat (first | exact Hb.out | (refine Below.setCell ?_ (by first | (simp; done) | (simp; omega)) _))⟩
      · have hmx2 : max tat now = tat := by omega
        rw [hmx2] at Hl2 hsum
        rw [hmx2]
        clear hmx2 hmx h ht hnow hn
        go_enter Try.func59, Try.ntmps59
        go_wp2_with fail
        refine (Hl1.out _).mono ?_
        rintro e w1 ⟨rfl, hb⟩
        obtain ⟨hc, hf⟩ := bcell hb
        have hz1 : w.heap.size + 1 < w1.heap.size := by have := hb.size; simp at this; omega
        have hz0 : w.heap.size < w1.heap.size := by omega
        go_wp2_with fail
        refine (Hl2.out _).mono ?_
        rintro e w2 ⟨rfl, hb2⟩
        obtain ⟨hc2, hf2⟩ := bcell hb2
        have hz2 : w1.heap.size < w2.heap.size := by have := hb2.size; simp at this; omega
        have Hb : Hid (Below w.heap.size w w2) := (below_past (below_past hb)).trans ((below_past hb2).mono (by omega))
        clear hb hb2 Hl1 Hl2
        go_wp2
        exact bodyPost_ret (v := ansV true (tat + n * T) 0 L2) (by simp [results, Try.results59, go_sem, ansV, hc2, hc, hz0, hz1]) rfl ⟨rfl, by repeat (first | exact Hb.out | (refine Below.setCell ?_ (by first | (simp; done) | (simp; omega)) _))⟩
    · obtain rfl : n = 0 := by omega
      have hG : decG T tau tat now 0 = true := decide_eq_true hg
      have hT : decTat T tau tat now 0 = tat := if_neg (by omega)
      have hW : decWait T tau tat now 0 = 0 := if_pos hg
      have hL : decLeft T tau tat now 0 = leftI T tau tat now := by unfold decLeft; rw [hT]
      rw [hT] at Hl2
      rw [hG] at Hl1
      rw [hG, hT, hW, hL]
      generalize leftI T tau tat now = L1 at *
      clear hG hT hW hL hlg hdt hz h ht hnow hn
      unfold limV at *
      go_enter Try.func59, Try.ntmps59
      go_wp2_with fail
      refine (Hl1.out _).mono ?_
      rintro e w1 ⟨rfl, hb⟩
      obtain ⟨hc, hf⟩ := bcell hb
      have hz1 : w.heap.size + 1 < w1.heap.size := by have := hb.size; simp at this; omega
      have hz0 : w.heap.size < w1.heap.size := by omega
      go_wp2_with fail
      refine (Hl2.out _).mono ?_
      rintro e w2 ⟨rfl, hb2⟩
      obtain ⟨hc2, hf2⟩ := bcell hb2
      have hz2 : w1.heap.size < w2.heap.size := by have := hb2.size; simp at this; omega
      have Hb : Hid (Below w.heap.size w w2) := (below_past (below_past hb)).trans ((below_past hb2).mono (by omega))
      clear hb hb2 Hl1 Hl2
      go_wp2
      exact bodyPost_ret (v := ansV true tat 0 L1) (by simp [results, Try.results59, go_sem, ansV, hc2, hc, hz0, hz1]) rfl ⟨rfl, by repeat (first | exact Hb.out | (refine Below.setCell ?_ (by first | (simp; done) | (simp; omega)) _))⟩
  · have hn1 : 1 ≤ n := by omega
    have Hw := Lib.hid (fun v => rwait_any T tau tat now n v h ht hnow hn hg)
    have hG : decG T tau tat now n = false := decide_eq_false hg
    have hT : decTat T tau tat now n = tat := if_neg (by omega)
    have hW : decWait T tau tat now n = waitI T tau tat now n := if_neg hg
    have hL : decLeft T tau tat now n = leftI T tau tat now := by unfold decLeft; rw [hT]
    rw [hT] at Hl2
    rw [hG] at Hl1
    rw [hG, hT, hW, hL]
    generalize leftI T tau tat now = L1 at *
    generalize waitI T tau tat now n = W1 at *
    clear hG hT hW hL hlg hdt h ht hnow hn
    unfold limV at *
    go_enter Try.func59, Try.ntmps59
    go_wp2_with fail
    refine (Hl1.out _).mono ?_
    rintro e w1 ⟨rfl, hb⟩
    obtain ⟨hc, hf⟩ := bcell hb
    have hz1 : w.heap.size + 1 < w1.heap.size := by have := hb.size; simp at this; omega
    have hz0 : w.heap.size < w1.heap.size := by omega
    go_wp2_with fail
    refine (Hw.out _).mono ?_
    rintro e w1a ⟨rfl, hba⟩
    obtain ⟨hca, hfa⟩ := bcell hba
    have hza : w1.heap.size < w1a.heap.size := by have := hba.size; simp at this; omega
    have hza1 : w.heap.size + 1 < w1a.heap.size := by omega
    go_wp2_with fail
    refine (Hl2.out _).mono ?_
    rintro e w2 ⟨rfl, hb2⟩
    obtain ⟨hc2, hf2⟩ := bcell hb2
    have hz2 : w1a.heap.size ≤ w2.heap.size := by have := hb2.size; simp at this; omega
    have Hb : Hid (Below w.heap.size w w2) := ((below_past (below_past hb)).trans ((below_past hba).mono (by omega))).trans ((((Below.refl _ _).setCell (by simp; omega) _).trans (hb2.mono (by simp; omega))))
    clear hb hba hb2 Hl1 Hl2 Hw
    go_wp2
    exact bodyPost_ret (v := ansV false tat W1 L1) (by simp [results, Try.results59, go_sem, ansV, hc2, hca, hc, hz0, hz1, hza1]) rfl ⟨rfl, by repeat (first | exact Hb.out | (refine Below.setCell ?_ (by first | (simp; done) | (simp; omega)) _))⟩

end Go.Proofs.Ytdjiihcbaedmcaa
