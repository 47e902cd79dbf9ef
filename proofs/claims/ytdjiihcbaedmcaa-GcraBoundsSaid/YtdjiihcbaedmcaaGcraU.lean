/- The law GcraRuns: its walk. -/
import Derived.Test.YtdjiihcbaedmcaaGcraS
import Derived.Test.YtdjiihcbaedmcaaGcraT
import Derived.Test.YtdjiihcbaedmcaaGcraM
namespace Go.Proofs.Ytdjiihcbaedmcaa
open Go.RowKit

/-- A list of answers and a code. -/
def RunGen (w : World) (t : TypeId) (n : Nat) (C : List Value) (f : Int) (e : Ending) (w' : World) : Prop :=
  ∃ v, e = .returned (.tuple #[v, .int .i64 f]) ∧ w'.ownsRow (w.heap.size + 1) t 4 v n C ∧ Below w.heap.size w w'

def runE (T tau tat : Int) (L : List (Int × Int)) : Int := if okRun T tau tat L = true then (if L.length ≤ 4096 then 0 else 2) else 1
def runN (T tau tat : Int) (L : List (Int × Int)) : Nat := if okRun T tau tat L = true then (if L.length ≤ 4096 then L.length else 0) else 0
def runV (T tau tat : Int) (L : List (Int × Int)) : List Value := if okRun T tau tat L = true then (if L.length ≤ 4096 then runC T tau tat L else []) else []

theorem run_any (T tau tat : Int) (v : Value) (L : List (Int × Int)) (w : World) (h : AskAt w v L) :
    Calls Try.prog 46 #[limV T tau, .int .i64 tat, v] w (RunGen w 41 (runN T tau tat L) (runV T tau tat L) (runE T tau tat L)) := by
  unfold runN runV runE
  cases hok : okRun T tau tat L with
  | false =>
    refine (run_bad T tau tat v L w h hok).mono ?_
    rintro e w' ⟨rfl, hb⟩
    exact ⟨_, rfl, World.ownsRow_nil _ _ _ _, hb⟩
  | true =>
    by_cases hl : L.length ≤ 4096
    · rw [if_pos rfl, if_pos rfl, if_pos rfl, if_pos hl, if_pos hl, if_pos hl]
      exact run_yes T tau tat v L w h hok hl
    · rw [if_pos rfl, if_pos rfl, if_pos rfl, if_neg hl, if_neg hl, if_neg hl]
      refine (run_long T tau tat v L w h hok (by omega)).mono ?_
      rintro e w' ⟨rfl, hb⟩
      exact ⟨_, rfl, World.ownsRow_nil _ _ _ _, hb⟩

theorem docrun_any (T tau tat : Int) (v : Value) (L : List (Int × Int)) (w : World) (h : AskAt w v L) :
    Calls Try.prog 47 #[limV T tau, .int .i64 tat, v] w (RunGen w 44 (runN T tau tat L) (runV T tau tat L) (runE T tau tat L)) := by
  unfold runN runV runE
  cases hok : okRun T tau tat L with
  | false =>
    refine (doc_bad T tau tat v L w h hok).mono ?_
    rintro e w' ⟨rfl, hb⟩
    exact ⟨_, rfl, World.ownsRow_nil _ _ _ _, hb⟩
  | true =>
    by_cases hl : L.length ≤ 4096
    · rw [if_pos rfl, if_pos rfl, if_pos rfl, if_pos hl, if_pos hl, if_pos hl]
      exact doc_yes T tau tat v L w h hok hl
    · rw [if_pos rfl, if_pos rfl, if_pos rfl, if_neg hl, if_neg hl, if_neg hl]
      refine (doc_long T tau tat v L w h hok (by omega)).mono ?_
      rintro e w' ⟨rfl, hb⟩
      exact ⟨_, rfl, World.ownsRow_nil _ _ _ _, hb⟩

/-- Four cells a round: what answers look like. -/
def Quads (n : Nat) (C : List Value) : Prop := ∀ i, i < n → ∃ g x y z, C[i * 4]? = some (.bool g) ∧ C[i * 4 + 1]? = some (.int .i64 x) ∧ C[i * 4 + 2]? = some (.int .i64 y) ∧ C[i * 4 + 3]? = some (.int .i64 z)

theorem quads_runC (T tau : Int) (L : List (Int × Int)) : ∀ tat, Quads L.length (runC T tau tat L) := by
  induction L with
  | nil => intro tat i hi; simp at hi
  | cons p L ih =>
    intro tat i hi
    cases i with
    | zero => exact ⟨decG T tau tat p.1 p.2, decTat T tau tat p.1 p.2, decWait T tau tat p.1 p.2, decLeft T tau tat p.1 p.2, by simp [runC, ansC], by simp [runC, ansC], by simp [runC, ansC], by simp [runC, ansC]⟩
    | succ i =>
      obtain ⟨g, x, y, z, h0, h1, h2, h3⟩ := ih (decTat T tau tat p.1 p.2) i (by simpa using hi)
      refine ⟨g, x, y, z, ?_, ?_, ?_, ?_⟩
      · rw [runC, show (i + 1) * 4 = i * 4 + 4 by omega, List.getElem?_append_right (by simp [ansC])]; simpa [ansC] using h0
      · rw [runC, show (i + 1) * 4 + 1 = i * 4 + 1 + 4 by omega, List.getElem?_append_right (by simp [ansC])]; simpa [ansC] using h1
      · rw [runC, show (i + 1) * 4 + 2 = i * 4 + 2 + 4 by omega, List.getElem?_append_right (by simp [ansC])]; simpa [ansC] using h2
      · rw [runC, show (i + 1) * 4 + 3 = i * 4 + 3 + 4 by omega, List.getElem?_append_right (by simp [ansC])]; simpa [ansC] using h3

theorem quads_runV (T tau tat : Int) (L : List (Int × Int)) : Quads (runN T tau tat L) (runV T tau tat L) := by
  unfold runN runV
  cases okRun T tau tat L with
  | false => intro i hi; simp at hi
  | true =>
    by_cases hl : L.length ≤ 4096
    · rw [if_pos rfl, if_pos rfl, if_pos hl, if_pos hl]; exact quads_runC T tau L tat
    · rw [if_pos rfl, if_pos rfl, if_neg hl, if_neg hl]; intro i hi; simp at hi

theorem flatA_get (L : List (Int × Int)) : ∀ i, i < L.length → (flatA L)[i * 2]? = some (.int .i64 (L.getD i (0, 0)).1) ∧ (flatA L)[i * 2 + 1]? = some (.int .i64 (L.getD i (0, 0)).2) := by
  induction L with
  | nil => intro i hi; simp at hi
  | cons p L ih =>
    intro i hi
    cases i with
    | zero => exact ⟨by simp [flatA], by simp [flatA]⟩
    | succ i =>
      obtain ⟨h0, h1⟩ := ih i (by simpa using hi)
      have e : flatA (p :: L) = [.int .i64 p.1, .int .i64 p.2] ++ flatA L := rfl
      refine ⟨?_, ?_⟩
      · rw [e, show (i + 1) * 2 = i * 2 + 2 by omega, List.getElem?_append_right (by simp)]; simpa using h0
      · rw [e, show (i + 1) * 2 + 1 = i * 2 + 1 + 2 by omega, List.getElem?_append_right (by simp)]; simpa using h1

theorem own_cell {w : World} {base : Nat} {t : TypeId} {size : Nat} {v : Value} {n : Nat} {xs : List Value} (h : w.ownsRow base t size v n xs) {g : Nat} (hg : v.ownBlock = some g) {j : Nat} {u : Value} (hu : xs[j]? = some u) : w.cell? ⟨g, j, none⟩ = some u := by
  have hadd : (⟨g, 0, none⟩ : Addr).add j = ⟨g, j, none⟩ := by unfold Addr.add; split <;> simp_all
  rw [← hadd]
  exact h.cells hg j u hu

theorem own_shape {w : World} {base : Nat} {t : TypeId} {size : Nat} {v : Value} {n : Nat} {xs : List Value} (h : w.ownsRow base t size v n xs) : ∃ a c, v = .slice a n c ∧ n ≤ c ∧ c ≤ 2 ^ 63 - 1 ∧ (0 < n → ∃ g, a = some ⟨g, 0, none⟩ ∧ v.ownBlock = some g) := by
  obtain ⟨-, ⟨rfl, rfl⟩ | ⟨g, cap, cur, rfl, hg, hh, hn, hm, hs, ht⟩⟩ := h
  · exact ⟨_, _, rfl, Nat.le_refl _, by omega, fun h => by omega⟩
  · exact ⟨_, _, rfl, hn, hm, fun _ => ⟨g, rfl, rfl⟩⟩

theorem ask_of_own {w : World} {base : Nat} {t : TypeId} {g cap : Nat} {L M : List (Int × Int)} (h : w.ownsRow base t 2 (.slice (some ⟨g, 0, none⟩) (L ++ M).length cap) (L ++ M).length (flatA (L ++ M))) (hm : cap ≤ maxLen) (hc : (L ++ M).length ≤ cap) :
    AskAt w (.slice (some ⟨g, 0, none⟩) L.length cap) L := by
  refine ⟨_, _, rfl, by simp at hc; omega, hm, fun _ => ⟨g, 0, rfl, fun i hi => ?_⟩⟩
  obtain ⟨h0, h1⟩ := flatA_get (L ++ M) i (by simp; omega)
  have e : (L ++ M).getD i (0, 0) = L.getD i (0, 0) := by
    rw [List.getD_eq_getElem?_getD, List.getD_eq_getElem?_getD, List.getElem?_append_left hi]
  rw [e] at h0 h1
  exact ⟨by rw [Nat.zero_add]; exact own_cell h rfl h0, by rw [Nat.zero_add]; exact own_cell h rfl h1⟩

theorem ask_cells {w : World} {g c n : Nat} {L : List (Int × Int)} (h : AskAt w (.slice (some ⟨g, 0, none⟩) n c) L) : ∀ j, j < L.length → w.cell? ⟨g, j * 2, none⟩ = some (.int .i64 (L.getD j (0, 0)).1) ∧ w.cell? ⟨g, j * 2 + 1, none⟩ = some (.int .i64 (L.getD j (0, 0)).2) := by
  obtain ⟨a, c', he, -, -, hr⟩ := h
  simp only [Value.slice.injEq] at he
  intro j hj
  obtain ⟨b, off, ha, hc⟩ := hr (by omega)
  have e := he.1.trans ha
  simp only [Option.some.injEq, Addr.mk.injEq] at e
  obtain ⟨rfl, rfl, -⟩ := e
  have := hc j hj
  rwa [Nat.zero_add] at this

set_option maxHeartbeats 4000000 in
set_option maxRecDepth 100000 in
theorem runs_core (T tau tat : Int) (v : Value) (L : List (Int × Int)) (w : World) (n : Nat) (C : List Value) (f : Int) (h : AskAt w v L) (hn : (L.length + 1) * 16 ≤ 140737488355328) (hq : Quads n C)
    (k1 : ∀ u w, AskAt w u L → Calls Try.prog 46 #[limV T tau, .int .i64 tat, u] w (RunGen w 41 n C f))
    (k2 : ∀ u w, AskAt w u L → Calls Try.prog 47 #[limV T tau, .int .i64 tat, u] w (RunGen w 44 n C f)) :
    Calls Try.prog 15 #[limV T tau, .int .i64 tat, v] w fun e w' => e = .returned (.bool true) ∧ Below w.heap.size w w' := by
  have K1 := Lib.hid k1; have K2 := Lib.hid k2; have Hq := Lib.hid hq
  have Kv := Lib.hid h
  have Ka := Lib.hid (fun v w h => asks_any v L w h hn)
  have Ks := Lib.hid (fun g a b c v => same_yes g a b c v)
  obtain ⟨a, c, rfl, hl, hc, -⟩ := h
  unfold maxLen at hc
  clear k1 k2 hq
  unfold limV ansV at *
  go_enter Try.func15, Try.ntmps15
  go_wp2_with fail
  refine (awake5 _).mono ?_
  rintro e w1 ⟨rfl, hb⟩
  obtain ⟨hc1, hf1⟩ := bcell hb
  have hz1 : w.heap.size < w1.heap.size := by have := hb.size; simp at this; omega
  have Hb := Lib.hid (below_past hb)
  clear hb
  go_wp2_with fail
  refine (Ka.out _ _ (Kv.out.later Hb.out)).mono ?_
  rintro e w2 ⟨v2, rfl, hown2, hb2⟩
  obtain ⟨hc2, hf2⟩ := bcell hb2
  have hz2 : w1.heap.size ≤ w2.heap.size := hb2.size
  have Hb2 : Hid (Below w.heap.size w w2) := Hb.out.trans (hb2.mono (by omega))
  have Hcells := Lib.hid hown2
  have hlt2 := hown2.lt
  obtain ⟨-, h2 | ⟨g2, cap2, cur2, rfl, hg2, hh2, hn2, hm2, hs2, ht2⟩⟩ := hown2
  · omega
  have hfull : (L ++ [((77, 78) : Int × Int)]).length = L.length + 1 := by simp
  have Hask := Lib.hid (ask_of_own (M := [(77, 78)]) (by rw [hfull]; exact Hcells.out) hm2 (by rw [hfull]; exact hn2))
  have Hfull := Lib.hid (ask_of_own (L := L ++ [(77, 78)]) (M := []) (by rw [List.append_nil, hfull]; exact Hcells.out) hm2 (by rw [List.append_nil, hfull]; exact hn2))
  have hm2' : cap2 ≤ 2 ^ 63 - 1 := hm2
  have hlt2g := (hlt2 g2 rfl).2
  clear hb2 hh2 hs2 ht2 hlt2 hm2
  go_wp2_with fail
  have hl0 : w2.cell? ⟨w.heap.size, 0, none⟩ = some (.int .i64 T) := by rw [hc2 _ _ hz1, hc1 _ _ (by simp)]; simp [go_sem]
  have hl1 : w2.cell? ⟨w.heap.size, 1, none⟩ = some (.int .i64 tau) := by rw [hc2 _ _ hz1, hc1 _ _ (by simp)]; simp [go_sem]
  have Hl := Lib.hid (And.intro hl0 hl1)
  have hi0 : (0 : Int) ≤ (L.length : Int) := by omega
  have hi1 : (L.length : Int) ≤ (cap2 : Int) := by omega
  have Hask2 := Lib.hid (Hask.out.later (Below.refl _ _).drew)
  go_region_held3 (fun w' => w'.cell? ⟨w.heap.size, 0, none⟩ = some (.int .i64 T) ∧ w'.cell? ⟨w.heap.size, 1, none⟩ = some (.int .i64 tau)) (first | exact Hl.out | exact Hl3.out) (first | (go_at_call 46; (with_reducible refine (K1.out _ _ (Hask2.out)).mono ?_); rintro e w3 ⟨v3, rfl, hown3, hb3⟩; have Hl3 := Lib.hid (And.intro (cell_later hb3 Hl.out.1) (cell_later hb3 Hl.out.2)); have Hown3 := Lib.hid hown3; have Hb3 := Lib.hid hb3; clear hown3 hb3))
  obtain ⟨a3, c3, rfl, hn3, hm3, hr3⟩ := own_shape Hown3.out
  have Hr3 := Lib.hid hr3
  have hz3 : w2.heap.size ≤ w3.heap.size := by have := Hb3.out.size; simp at this; omega
  have Hbel3 : Hid (Below w.heap.size w w3) := Hb2.out.trans ((Below.trans (Below.refl _ w2).drew Hb3.out).mono (show w.heap.size ≤ w2.heap.size by omega))
  have hl3 := Hl3.out
  obtain ⟨hl3a, hl3b⟩ := hl3
  clear hl0 hl1 hr3 hc1 hf1 hc2 hf2
  go_wp2_with fail
  refine (K2.out _ _ (Kv.out.later Hbel3.out)).mono ?_
  rintro e w4 ⟨v4, rfl, hown4, hb4⟩
  have hz4 : w3.heap.size ≤ w4.heap.size := hb4.size
  have Hbel4 : Hid (Below w.heap.size w w4) := Hbel3.out.trans (hb4.mono (by omega))
  have Hown4 := Lib.hid hown4
  have Hown3' := Lib.hid (own_later Hown3.out hb4)
  obtain ⟨a4, c4, rfl, hn4, hm4, hr4⟩ := own_shape hown4
  have Hr4 := Lib.hid hr4
  have Hb4 := Lib.hid hb4
  clear hr4 hown4 hb4
  go_wp2_with fail
  go_wp2
  go_loopw [12, 48] (fun _ i wr => ∃ k : Nat, i = .int .i64 k ∧ k ≤ n ∧ Below w4.heap.size w4 wr) (fun _ i _ => n - (intOf i).toNat)
  case atStart => exact ⟨0, rfl, Nat.zero_le _, Below.refl _ _⟩
  case round =>
    obtain ⟨k, rfl, hk, hbel⟩ := hrel
    have Hbel := Lib.hid hbel
    clear hbel
    by_cases hA : k < n
    · obtain ⟨g3, rfl, ho3⟩ := Hr3.out (by omega)
      obtain ⟨g4, rfl, ho4⟩ := Hr4.out (by omega)
      obtain ⟨g, x, y, z, q0, q1, q2, q3⟩ := Hq.out k hA
      have hx0 := cell_later Hbel.out (own_cell Hown3'.out ho3 q0)
      have hx1 := cell_later Hbel.out (own_cell Hown3'.out ho3 q1)
      have hx2 := cell_later Hbel.out (own_cell Hown3'.out ho3 q2)
      have hx3 := cell_later Hbel.out (own_cell Hown3'.out ho3 q3)
      have hy0 := cell_later Hbel.out (own_cell Hown4.out ho4 q0)
      have hy1 := cell_later Hbel.out (own_cell Hown4.out ho4 q1)
      have hy2 := cell_later Hbel.out (own_cell Hown4.out ho4 q2)
      have hy3 := cell_later Hbel.out (own_cell Hown4.out ho4 q3)
      have hlt3 := World.block_lt_of_cell? _ _ hx0
      have hlt4 := World.block_lt_of_cell? _ _ hy0
      have HX := Lib.hid (And.intro hx0 (And.intro hx1 (And.intro hx2 (And.intro hx3 (And.intro hy0 (And.intro hy1 (And.intro hy2 hy3)))))))
      clear q0 q1 q2 q3 ho3 ho4
      have hk0 : (0 : Int) ≤ (k : Int) := by omega
      have hk1 : (k : Int) < (n : Int) := by omega
      go_wp2_with fail
      go_region_held3 (fun w' => w'.cell? ⟨g3, k * 4, none⟩ = some (.bool g) ∧ w'.cell? ⟨g3, k * 4 + 1, none⟩ = some (.int .i64 x) ∧ w'.cell? ⟨g3, k * 4 + 2, none⟩ = some (.int .i64 y) ∧ w'.cell? ⟨g3, k * 4 + 3, none⟩ = some (.int .i64 z) ∧ w'.cell? ⟨g4, k * 4, none⟩ = some (.bool g) ∧ w'.cell? ⟨g4, k * 4 + 1, none⟩ = some (.int .i64 x) ∧ w'.cell? ⟨g4, k * 4 + 2, none⟩ = some (.int .i64 y) ∧ w'.cell? ⟨g4, k * 4 + 3, none⟩ = some (.int .i64 z)) (first | exact HX.out | exact HX2.out) (first | (go_at_call 36; (with_reducible refine (Ks.out _ _ _ _ _).mono ?_); rintro e w5 ⟨rfl, hb5⟩; have HX2 := Lib.hid (And.intro (cell_later hb5 HX.out.1) (And.intro (cell_later hb5 HX.out.2.1) (And.intro (cell_later hb5 HX.out.2.2.1) (And.intro (cell_later hb5 HX.out.2.2.2.1) (And.intro (cell_later hb5 HX.out.2.2.2.2.1) (And.intro (cell_later hb5 HX.out.2.2.2.2.2.1) (And.intro (cell_later hb5 HX.out.2.2.2.2.2.2.1) (cell_later hb5 HX.out.2.2.2.2.2.2.2)))))))); have Hb5 := Lib.hid hb5; clear hb5))
      all_goals go_wp2
      have Hb6 : Hid (Below w4.heap.size w4 w5) := Hbel.out.trans ((Below.trans (Below.refl _ wr).drew Hb5.out).mono Hbel.out.size)
      exact ⟨⟨k + 1, by go_num, by omega, Hb6.out⟩, by simp [intOf]; omega⟩
    · obtain rfl : k = n := by omega
      have hz5 : w4.heap.size ≤ wr.heap.size := Hbel.out.size
      have Hbel5 : Hid (Below w.heap.size w wr) := Hbel4.out.trans (Hbel.out.mono (by omega))
      have Hfull5 := Lib.hid ((((Hfull.out.later (Below.refl _ w2).drew).later Hb3.out).later Hb4.out).later Hbel.out)
      clear Hfull Hask Hask2 Hcells hl3a hl3b Hl Hl3 Hown3 Hown3' Hown4 Hr3 Hr4 Hb2 Hb3 Hb4 Hbel3 Hb Hq K1 K2 Ks
      go_wp2_with fail
      refine (Ka.out _ _ (Kv.out.later Hbel5.out)).mono ?_
      rintro e w5 ⟨v5, rfl, hown5, hb5⟩
      have hz6 : wr.heap.size ≤ w5.heap.size := hb5.size
      have Hbel6 : Hid (Below w.heap.size w w5) := Hbel5.out.trans (hb5.mono (by omega))
      have Hfull6 := Lib.hid (Hfull5.out.later hb5)
      obtain ⟨a5, c5, rfl, hn5, hm5, hr5⟩ := own_shape hown5
      obtain ⟨g5, rfl, ho5⟩ := hr5 (by omega)
      have hml : c5 ≤ maxLen := hm5
      have Hs5 := Lib.hid (ask_of_own (L := L ++ [(77, 78)]) (M := []) (by rw [List.append_nil, hfull]; exact hown5) hml (by rw [List.append_nil, hfull]; exact hn5))
      rw [hfull] at Hs5 Hfull6
      clear hown5 hb5 hr5 hml Hfull5 Kv Ka
      go_wp2
      go_loopw [13, 14, 65] (fun _ _ i wq => ∃ j : Nat, i = .int .i64 j ∧ j ≤ L.length + 1 ∧ Below w5.heap.size w5 wq) (fun _ _ i _ => L.length + 1 - (intOf i).toNat)
      case atStart => exact ⟨0, rfl, Nat.zero_le _, Below.refl _ _⟩
      case round =>
        rename_i wq
        obtain ⟨j, rfl, hj, hbelq⟩ := hrel
        have Hbelq := Lib.hid hbelq
        clear hbelq
        by_cases hB : j < L.length + 1
        · obtain ⟨hx0, hx1⟩ := ask_cells Hs5.out j (by rw [hfull]; exact hB)
          obtain ⟨hy0, hy1⟩ := ask_cells Hfull6.out j (by rw [hfull]; exact hB)
          generalize (L ++ [((77, 78) : Int × Int)]).getD j (0, 0) = p at *
          obtain ⟨x, y⟩ := p
          have hx0' := cell_later Hbelq.out hx0
          have hx1' := cell_later Hbelq.out hx1
          have hy0' := cell_later Hbelq.out hy0
          have hy1' := cell_later Hbelq.out hy1
          have hltx := World.block_lt_of_cell? _ _ hx0'
          have hlty := World.block_lt_of_cell? _ _ hy0'
          clear hx0 hx1 hy0 hy1
          have hk0 : (0 : Int) ≤ (j : Int) := by omega
          have hk1 : (j : Int) < (L.length : Int) + 1 := by omega
          go_wp2_with fail
          go_quiet (fail)
          go_wp2
          exact ⟨⟨j + 1, by go_num, by omega, below_drewN (Hbelq.out.alloc Hbelq.out.size _) _⟩, by simp [intOf]; omega⟩
        · obtain rfl : j = L.length + 1 := by omega
          go_wp2
          go_ret
          exact ⟨rfl, Hbel6.out.trans (Hbelq.out.mono (by omega))⟩
end Go.Proofs.Ytdjiihcbaedmcaa
